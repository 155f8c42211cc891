/- errors.As of errors that are sentinels or wrap one, at a variable of one of the wrappers' types. No condition. Printed by gen_as.py. -/
import Derived.Test.YtcbfmajojkcibaaDoorPErrIs
namespace Go.Proofs.YtcbfmajojkcibaaDoor
open Go Go.RowKit Go.Extern.Stop Go.Stop Go.Extern

deriving instance DecidableEq for Wr
/-- The outermost wrapper of a kind. -/
def Er.first (k : Wr) : Er → Option Nat
  | .leaf _ => none
  | .wrap k' b _ e => if k' = k then some b else e.first k
/-- What errors.as and errors.As tell, and what they leave. -/
def AsTold (W w' : World) (k : Wr) (e : Er) (tb : Nat) (x : Ending) : Prop := ∃ w1, Gr W w1 ∧ match e.first k with
  | none => x = .returned (.bool false) ∧ w' = w1
  | some b => x = .returned (.bool true) ∧ w' = w1.setCell ⟨tb, 0, none⟩ (.pointer (some ⟨b, 0, none⟩))

theorem rlm (z : Sem Value) (f : TypeId → Addr → Nat → Nat → Sem Value) (v : Value) :
    ReflectliteValue.method z f #[v] = (do match ← ReflectliteValue.parts v with | none => z | some (t, a, fl) => f t a fl (fl % 32)) := rfl
theorem rls (v x : Value) : ReflectliteValue.set #[v, x] = (do
    let (some (dst, a, fl), some (src, b, _)) := (← ReflectliteValue.parts v, ← ReflectliteValue.parts x)
      | unsupported (.noEntry "extern/(internal/reflectlite.Value).Set.zeroValue")
    if fl / ReflectliteValue.flagAddr % 2 == 0 then unsupported (.noEntry "extern/(internal/reflectlite.Value).Set.unaddressable")
    let val ← loadVar src b
    if ← Rtype.directlyAssignable dst src then storeVar dst a val
    else if ← Rtype.implements dst src then
      if (← Rtype.kind src) == 20 then
        match val with
        | .nilIface => unsupported (.noEntry "extern/reflectlite: a nil value of one interface type handed on as a value of another")
        | _ => storeVar dst a val
      else storeVar dst a (.iface src val)
    else panicString ("reflectlite.Set: value of type " ++ (← Rtype.spelt src) ++ " is not assignable to type " ++ (← Rtype.spelt dst))
    pure (.tuple #[])) := rfl
theorem rt_kind (h : Value) (w : World) : (Go.method 290 142 (.agg #[h]) "Kind").run Tryd.prog w = .ok (95, h) w := by kernel_rfl
theorem rt_elem (h : Value) (w : World) : (Go.method 290 142 (.agg #[h]) "Elem").run Tryd.prog w = .ok (112, .agg #[h]) w := by kernel_rfl
theorem rt_impl (h : Value) (w : World) : (Go.method 290 142 (.agg #[h]) "Implements").run Tryd.prog w = .ok (113, .agg #[h]) w := by kernel_rfl
theorem rt_assign (h : Value) (w : World) : (Go.method 290 142 (.agg #[h]) "AssignableTo").run Tryd.prog w = .ok (110, .agg #[h]) w := by kernel_rfl
theorem es_noAs (v : Value) (xT : TypeId) (w : World) : (Instr.typeAssert (.iface 157 v) xT 146 true).run Tryd.prog w = .ok (.tuple #[.nilIface, .bool false]) w := run_typeAssert_lacksB Tryd.underlying146 (by kernel_rfl) (by kernel_rfl) v xT w
theorem placed_noAs (v : Value) (xT : TypeId) (w : World) : (Instr.typeAssert (.iface 103 v) xT 146 true).run Tryd.prog w = .ok (.tuple #[.nilIface, .bool false]) w := run_typeAssert_lacksB Tryd.underlying146 (by kernel_rfl) (by kernel_rfl) v xT w
theorem placed_valueOfP (t : Addr) (w : World) : (ReflectliteValue.unpack (.iface 105 (.pointer (some t)))).run Tryd.prog w = .ok (.agg #[.pointer (some ⟨17, 105, none⟩), .pointer (some ⟨w.heap.size, 0, none⟩), .int .u64 150]) (w.alloc (.cells #[.pointer (some t)] 105)) := by kernel_rfl
theorem placed_type (a : Addr) (w : World) : (ReflectliteValue.methodAny (ReflectliteValue.valueError "reflectlite.Value.Type" 0) (fun t _ _ _ => ReflectliteType.toType t) #[.agg #[.pointer (some ⟨17, 105, none⟩), .pointer (some a), .int .u64 150]]).run Tryd.prog w = .ok (.iface 142 (.agg #[.pointer (some ⟨17, 105, none⟩)])) w := by kernel_rfl
theorem placed_kindP (w : World) : ((ReflectliteType.abiMethod fun t => (fun a : Nat => Value.int IntKind.u8 (a : Int)) <$> Rtype.kind t) #[.pointer (some ⟨17, 105, none⟩)]).run Tryd.prog w = .ok (.int .u8 22) w := by kernel_rfl
theorem placed_kind (w : World) : ((ReflectliteType.abiMethod fun t => (fun a : Nat => Value.int IntKind.u8 (a : Int)) <$> Rtype.kind t) #[.pointer (some ⟨17, 103, none⟩)]).run Tryd.prog w = .ok (.int .u8 22) w := by kernel_rfl
theorem placed_partsP (a : Addr) (w : World) : (ReflectliteValue.parts (.agg #[.pointer (some ⟨17, 105, none⟩), .pointer (some a), .int .u64 150])).run Tryd.prog w = .ok (some (105, a, 150)) w := by kernel_rfl
theorem placed_isNil (a p : Addr) (W : World) (ha : W.cell? a = some (.pointer (some p))) :
    (ReflectliteValue.method (ReflectliteValue.valueError "reflectlite.Value.IsNil" 0) ReflectliteValue.isNil #[.agg #[.pointer (some ⟨17, 105, none⟩), .pointer (some a), .int .u64 150]]).run Tryd.prog W = .ok (.bool false) W := by
  rw [rlm]
  simp only [Sem.run_bind, placed_partsP, Result.andThen]
  simp [ReflectliteValue.isNil, loadVar, isAgg, underlying, Tryd.underlying105, ha, Result.andThen]
theorem placed_elemT (w : World) : (ReflectliteType.method ReflectliteType.elem #[.agg #[.pointer (some ⟨17, 105, none⟩)]]).run Tryd.prog w = .ok (.iface 142 (.agg #[.pointer (some ⟨17, 103, none⟩)])) w := by kernel_rfl
theorem placed_impl (w : World) : (ReflectliteType.relation "Implements" ReflectliteType.implements_ #[.agg #[.pointer (some ⟨17, 103, none⟩)], .iface 142 (.agg #[.pointer (some ⟨17, 38, none⟩)])]).run Tryd.prog w = .ok (.bool true) w := by kernel_rfl
theorem placed_typeOf (v : Value) (w : World) : (ReflectliteType.typeOf #[.iface 103 v]).run Tryd.prog w = .ok (.iface 142 (.agg #[.pointer (some ⟨17, 103, none⟩)])) w := by kernel_rfl
theorem placed_valueOf (e : Addr) (w : World) : (ReflectliteValue.unpack (.iface 103 (.pointer (some e)))).run Tryd.prog w = .ok (.agg #[.pointer (some ⟨17, 103, none⟩), .pointer (some ⟨w.heap.size, 0, none⟩), .int .u64 150]) (w.alloc (.cells #[.pointer (some e)] 103)) := by kernel_rfl
theorem placed_elemOf (w : World) : (Rtype.elem? 105).run Tryd.prog w = .ok (some 103) w := by kernel_rfl
theorem placed_mk (p : Addr) (w : World) : (ReflectliteValue.mk 103 p ReflectliteValue.flagAddr).run Tryd.prog w = .ok (.agg #[.pointer (some ⟨17, 103, none⟩), .pointer (some p), .int .u64 406]) w := by kernel_rfl
theorem placed_elemV (a p : Addr) (W : World) (ha : W.cell? a = some (.pointer (some p))) :
    (ReflectliteValue.method (ReflectliteValue.valueError "reflectlite.Value.Elem" 0) ReflectliteValue.elem #[.agg #[.pointer (some ⟨17, 105, none⟩), .pointer (some a), .int .u64 150]]).run Tryd.prog W = .ok (.agg #[.pointer (some ⟨17, 103, none⟩), .pointer (some p), .int .u64 406]) W := by
  rw [rlm]
  simp only [Sem.run_bind, placed_partsP, Result.andThen]
  simp [ReflectliteValue.elem, loadVar, isAgg, underlying, Tryd.underlying105, ha, Result.andThen, placed_elemOf, placed_mk]
theorem placed_partsA (a : Addr) (w : World) : (ReflectliteValue.parts (.agg #[.pointer (some ⟨17, 103, none⟩), .pointer (some a), .int .u64 406])).run Tryd.prog w = .ok (some (103, a, 406)) w := by kernel_rfl
theorem placed_parts (a : Addr) (w : World) : (ReflectliteValue.parts (.agg #[.pointer (some ⟨17, 103, none⟩), .pointer (some a), .int .u64 150])).run Tryd.prog w = .ok (some (103, a, 150)) w := by kernel_rfl
theorem placed_direct (w : World) : (Rtype.directlyAssignable 103 103).run Tryd.prog w = .ok true w := by kernel_rfl
theorem placed_set (ta b e : Addr) (old : Value) (W : World) (hb : W.cell? b = some (.pointer (some e))) (ht : W.cell? ta = some old) (hf : W.frozen? ta = false) :
    (ReflectliteValue.set #[.agg #[.pointer (some ⟨17, 103, none⟩), .pointer (some ta), .int .u64 406], .agg #[.pointer (some ⟨17, 103, none⟩), .pointer (some b), .int .u64 150]]).run Tryd.prog W = .ok (.tuple #[]) (W.setCell ta (.pointer (some e))) := by
  have hsz : ∀ w, (sizeOf 103 : Sem Nat).run Tryd.prog w = .ok 1 w := fun w => by kernel_rfl
  rw [rls]
  simp only [Sem.run_bind, placed_partsA, placed_parts, Result.andThen]
  simp [ReflectliteValue.flagAddr, loadVar, isAgg, underlying, Tryd.underlying103, hb, Result.andThen, placed_direct, storeVar, Value.cells, storeCells, Addr.add, hsz]
  rw [run_store Tryd.prog W ta _ _ (by rfl)]
  simp [ht, hf]
theorem placed_assignE (w : World) : (ReflectliteType.relation "AssignableTo" ReflectliteType.assignableTo #[.agg #[.pointer (some ⟨17, 157, none⟩)], .iface 142 (.agg #[.pointer (some ⟨17, 103, none⟩)])]).run Tryd.prog w = .ok (.bool false) w := by kernel_rfl
theorem named_noAs (v : Value) (xT : TypeId) (w : World) : (Instr.typeAssert (.iface 108 v) xT 146 true).run Tryd.prog w = .ok (.tuple #[.nilIface, .bool false]) w := run_typeAssert_lacksB Tryd.underlying146 (by kernel_rfl) (by kernel_rfl) v xT w
theorem named_valueOfP (t : Addr) (w : World) : (ReflectliteValue.unpack (.iface 109 (.pointer (some t)))).run Tryd.prog w = .ok (.agg #[.pointer (some ⟨17, 109, none⟩), .pointer (some ⟨w.heap.size, 0, none⟩), .int .u64 150]) (w.alloc (.cells #[.pointer (some t)] 109)) := by kernel_rfl
theorem named_type (a : Addr) (w : World) : (ReflectliteValue.methodAny (ReflectliteValue.valueError "reflectlite.Value.Type" 0) (fun t _ _ _ => ReflectliteType.toType t) #[.agg #[.pointer (some ⟨17, 109, none⟩), .pointer (some a), .int .u64 150]]).run Tryd.prog w = .ok (.iface 142 (.agg #[.pointer (some ⟨17, 109, none⟩)])) w := by kernel_rfl
theorem named_kindP (w : World) : ((ReflectliteType.abiMethod fun t => (fun a : Nat => Value.int IntKind.u8 (a : Int)) <$> Rtype.kind t) #[.pointer (some ⟨17, 109, none⟩)]).run Tryd.prog w = .ok (.int .u8 22) w := by kernel_rfl
theorem named_kind (w : World) : ((ReflectliteType.abiMethod fun t => (fun a : Nat => Value.int IntKind.u8 (a : Int)) <$> Rtype.kind t) #[.pointer (some ⟨17, 108, none⟩)]).run Tryd.prog w = .ok (.int .u8 22) w := by kernel_rfl
theorem named_partsP (a : Addr) (w : World) : (ReflectliteValue.parts (.agg #[.pointer (some ⟨17, 109, none⟩), .pointer (some a), .int .u64 150])).run Tryd.prog w = .ok (some (109, a, 150)) w := by kernel_rfl
theorem named_isNil (a p : Addr) (W : World) (ha : W.cell? a = some (.pointer (some p))) :
    (ReflectliteValue.method (ReflectliteValue.valueError "reflectlite.Value.IsNil" 0) ReflectliteValue.isNil #[.agg #[.pointer (some ⟨17, 109, none⟩), .pointer (some a), .int .u64 150]]).run Tryd.prog W = .ok (.bool false) W := by
  rw [rlm]
  simp only [Sem.run_bind, named_partsP, Result.andThen]
  simp [ReflectliteValue.isNil, loadVar, isAgg, underlying, Tryd.underlying109, ha, Result.andThen]
theorem named_elemT (w : World) : (ReflectliteType.method ReflectliteType.elem #[.agg #[.pointer (some ⟨17, 109, none⟩)]]).run Tryd.prog w = .ok (.iface 142 (.agg #[.pointer (some ⟨17, 108, none⟩)])) w := by kernel_rfl
theorem named_impl (w : World) : (ReflectliteType.relation "Implements" ReflectliteType.implements_ #[.agg #[.pointer (some ⟨17, 108, none⟩)], .iface 142 (.agg #[.pointer (some ⟨17, 38, none⟩)])]).run Tryd.prog w = .ok (.bool true) w := by kernel_rfl
theorem named_typeOf (v : Value) (w : World) : (ReflectliteType.typeOf #[.iface 108 v]).run Tryd.prog w = .ok (.iface 142 (.agg #[.pointer (some ⟨17, 108, none⟩)])) w := by kernel_rfl
theorem named_valueOf (e : Addr) (w : World) : (ReflectliteValue.unpack (.iface 108 (.pointer (some e)))).run Tryd.prog w = .ok (.agg #[.pointer (some ⟨17, 108, none⟩), .pointer (some ⟨w.heap.size, 0, none⟩), .int .u64 150]) (w.alloc (.cells #[.pointer (some e)] 108)) := by kernel_rfl
theorem named_elemOf (w : World) : (Rtype.elem? 109).run Tryd.prog w = .ok (some 108) w := by kernel_rfl
theorem named_mk (p : Addr) (w : World) : (ReflectliteValue.mk 108 p ReflectliteValue.flagAddr).run Tryd.prog w = .ok (.agg #[.pointer (some ⟨17, 108, none⟩), .pointer (some p), .int .u64 406]) w := by kernel_rfl
theorem named_elemV (a p : Addr) (W : World) (ha : W.cell? a = some (.pointer (some p))) :
    (ReflectliteValue.method (ReflectliteValue.valueError "reflectlite.Value.Elem" 0) ReflectliteValue.elem #[.agg #[.pointer (some ⟨17, 109, none⟩), .pointer (some a), .int .u64 150]]).run Tryd.prog W = .ok (.agg #[.pointer (some ⟨17, 108, none⟩), .pointer (some p), .int .u64 406]) W := by
  rw [rlm]
  simp only [Sem.run_bind, named_partsP, Result.andThen]
  simp [ReflectliteValue.elem, loadVar, isAgg, underlying, Tryd.underlying109, ha, Result.andThen, named_elemOf, named_mk]
theorem named_partsA (a : Addr) (w : World) : (ReflectliteValue.parts (.agg #[.pointer (some ⟨17, 108, none⟩), .pointer (some a), .int .u64 406])).run Tryd.prog w = .ok (some (108, a, 406)) w := by kernel_rfl
theorem named_parts (a : Addr) (w : World) : (ReflectliteValue.parts (.agg #[.pointer (some ⟨17, 108, none⟩), .pointer (some a), .int .u64 150])).run Tryd.prog w = .ok (some (108, a, 150)) w := by kernel_rfl
theorem named_direct (w : World) : (Rtype.directlyAssignable 108 108).run Tryd.prog w = .ok true w := by kernel_rfl
theorem named_set (ta b e : Addr) (old : Value) (W : World) (hb : W.cell? b = some (.pointer (some e))) (ht : W.cell? ta = some old) (hf : W.frozen? ta = false) :
    (ReflectliteValue.set #[.agg #[.pointer (some ⟨17, 108, none⟩), .pointer (some ta), .int .u64 406], .agg #[.pointer (some ⟨17, 108, none⟩), .pointer (some b), .int .u64 150]]).run Tryd.prog W = .ok (.tuple #[]) (W.setCell ta (.pointer (some e))) := by
  have hsz : ∀ w, (sizeOf 108 : Sem Nat).run Tryd.prog w = .ok 1 w := fun w => by kernel_rfl
  rw [rls]
  simp only [Sem.run_bind, named_partsA, named_parts, Result.andThen]
  simp [ReflectliteValue.flagAddr, loadVar, isAgg, underlying, Tryd.underlying108, hb, Result.andThen, named_direct, storeVar, Value.cells, storeCells, Addr.add, hsz]
  rw [run_store Tryd.prog W ta _ _ (by rfl)]
  simp [ht, hf]
theorem named_assignE (w : World) : (ReflectliteType.relation "AssignableTo" ReflectliteType.assignableTo #[.agg #[.pointer (some ⟨17, 157, none⟩)], .iface 142 (.agg #[.pointer (some ⟨17, 108, none⟩)])]).run Tryd.prog w = .ok (.bool false) w := by kernel_rfl
theorem ruled_noAs (v : Value) (xT : TypeId) (w : World) : (Instr.typeAssert (.iface 112 v) xT 146 true).run Tryd.prog w = .ok (.tuple #[.nilIface, .bool false]) w := run_typeAssert_lacksB Tryd.underlying146 (by kernel_rfl) (by kernel_rfl) v xT w
theorem ruled_valueOfP (t : Addr) (w : World) : (ReflectliteValue.unpack (.iface 113 (.pointer (some t)))).run Tryd.prog w = .ok (.agg #[.pointer (some ⟨17, 113, none⟩), .pointer (some ⟨w.heap.size, 0, none⟩), .int .u64 150]) (w.alloc (.cells #[.pointer (some t)] 113)) := by kernel_rfl
theorem ruled_type (a : Addr) (w : World) : (ReflectliteValue.methodAny (ReflectliteValue.valueError "reflectlite.Value.Type" 0) (fun t _ _ _ => ReflectliteType.toType t) #[.agg #[.pointer (some ⟨17, 113, none⟩), .pointer (some a), .int .u64 150]]).run Tryd.prog w = .ok (.iface 142 (.agg #[.pointer (some ⟨17, 113, none⟩)])) w := by kernel_rfl
theorem ruled_kindP (w : World) : ((ReflectliteType.abiMethod fun t => (fun a : Nat => Value.int IntKind.u8 (a : Int)) <$> Rtype.kind t) #[.pointer (some ⟨17, 113, none⟩)]).run Tryd.prog w = .ok (.int .u8 22) w := by kernel_rfl
theorem ruled_kind (w : World) : ((ReflectliteType.abiMethod fun t => (fun a : Nat => Value.int IntKind.u8 (a : Int)) <$> Rtype.kind t) #[.pointer (some ⟨17, 112, none⟩)]).run Tryd.prog w = .ok (.int .u8 22) w := by kernel_rfl
theorem ruled_partsP (a : Addr) (w : World) : (ReflectliteValue.parts (.agg #[.pointer (some ⟨17, 113, none⟩), .pointer (some a), .int .u64 150])).run Tryd.prog w = .ok (some (113, a, 150)) w := by kernel_rfl
theorem ruled_isNil (a p : Addr) (W : World) (ha : W.cell? a = some (.pointer (some p))) :
    (ReflectliteValue.method (ReflectliteValue.valueError "reflectlite.Value.IsNil" 0) ReflectliteValue.isNil #[.agg #[.pointer (some ⟨17, 113, none⟩), .pointer (some a), .int .u64 150]]).run Tryd.prog W = .ok (.bool false) W := by
  rw [rlm]
  simp only [Sem.run_bind, ruled_partsP, Result.andThen]
  simp [ReflectliteValue.isNil, loadVar, isAgg, underlying, Tryd.underlying113, ha, Result.andThen]
theorem ruled_elemT (w : World) : (ReflectliteType.method ReflectliteType.elem #[.agg #[.pointer (some ⟨17, 113, none⟩)]]).run Tryd.prog w = .ok (.iface 142 (.agg #[.pointer (some ⟨17, 112, none⟩)])) w := by kernel_rfl
theorem ruled_impl (w : World) : (ReflectliteType.relation "Implements" ReflectliteType.implements_ #[.agg #[.pointer (some ⟨17, 112, none⟩)], .iface 142 (.agg #[.pointer (some ⟨17, 38, none⟩)])]).run Tryd.prog w = .ok (.bool true) w := by kernel_rfl
theorem ruled_typeOf (v : Value) (w : World) : (ReflectliteType.typeOf #[.iface 112 v]).run Tryd.prog w = .ok (.iface 142 (.agg #[.pointer (some ⟨17, 112, none⟩)])) w := by kernel_rfl
theorem ruled_valueOf (e : Addr) (w : World) : (ReflectliteValue.unpack (.iface 112 (.pointer (some e)))).run Tryd.prog w = .ok (.agg #[.pointer (some ⟨17, 112, none⟩), .pointer (some ⟨w.heap.size, 0, none⟩), .int .u64 150]) (w.alloc (.cells #[.pointer (some e)] 112)) := by kernel_rfl
theorem ruled_elemOf (w : World) : (Rtype.elem? 113).run Tryd.prog w = .ok (some 112) w := by kernel_rfl
theorem ruled_mk (p : Addr) (w : World) : (ReflectliteValue.mk 112 p ReflectliteValue.flagAddr).run Tryd.prog w = .ok (.agg #[.pointer (some ⟨17, 112, none⟩), .pointer (some p), .int .u64 406]) w := by kernel_rfl
theorem ruled_elemV (a p : Addr) (W : World) (ha : W.cell? a = some (.pointer (some p))) :
    (ReflectliteValue.method (ReflectliteValue.valueError "reflectlite.Value.Elem" 0) ReflectliteValue.elem #[.agg #[.pointer (some ⟨17, 113, none⟩), .pointer (some a), .int .u64 150]]).run Tryd.prog W = .ok (.agg #[.pointer (some ⟨17, 112, none⟩), .pointer (some p), .int .u64 406]) W := by
  rw [rlm]
  simp only [Sem.run_bind, ruled_partsP, Result.andThen]
  simp [ReflectliteValue.elem, loadVar, isAgg, underlying, Tryd.underlying113, ha, Result.andThen, ruled_elemOf, ruled_mk]
theorem ruled_partsA (a : Addr) (w : World) : (ReflectliteValue.parts (.agg #[.pointer (some ⟨17, 112, none⟩), .pointer (some a), .int .u64 406])).run Tryd.prog w = .ok (some (112, a, 406)) w := by kernel_rfl
theorem ruled_parts (a : Addr) (w : World) : (ReflectliteValue.parts (.agg #[.pointer (some ⟨17, 112, none⟩), .pointer (some a), .int .u64 150])).run Tryd.prog w = .ok (some (112, a, 150)) w := by kernel_rfl
theorem ruled_direct (w : World) : (Rtype.directlyAssignable 112 112).run Tryd.prog w = .ok true w := by kernel_rfl
theorem ruled_set (ta b e : Addr) (old : Value) (W : World) (hb : W.cell? b = some (.pointer (some e))) (ht : W.cell? ta = some old) (hf : W.frozen? ta = false) :
    (ReflectliteValue.set #[.agg #[.pointer (some ⟨17, 112, none⟩), .pointer (some ta), .int .u64 406], .agg #[.pointer (some ⟨17, 112, none⟩), .pointer (some b), .int .u64 150]]).run Tryd.prog W = .ok (.tuple #[]) (W.setCell ta (.pointer (some e))) := by
  have hsz : ∀ w, (sizeOf 112 : Sem Nat).run Tryd.prog w = .ok 1 w := fun w => by kernel_rfl
  rw [rls]
  simp only [Sem.run_bind, ruled_partsA, ruled_parts, Result.andThen]
  simp [ReflectliteValue.flagAddr, loadVar, isAgg, underlying, Tryd.underlying112, hb, Result.andThen, ruled_direct, storeVar, Value.cells, storeCells, Addr.add, hsz]
  rw [run_store Tryd.prog W ta _ _ (by rfl)]
  simp [ht, hf]
theorem ruled_assignE (w : World) : (ReflectliteType.relation "AssignableTo" ReflectliteType.assignableTo #[.agg #[.pointer (some ⟨17, 157, none⟩)], .iface 142 (.agg #[.pointer (some ⟨17, 112, none⟩)])]).run Tryd.prog w = .ok (.bool false) w := by kernel_rfl
theorem staged_noAs (v : Value) (xT : TypeId) (w : World) : (Instr.typeAssert (.iface 116 v) xT 146 true).run Tryd.prog w = .ok (.tuple #[.nilIface, .bool false]) w := run_typeAssert_lacksB Tryd.underlying146 (by kernel_rfl) (by kernel_rfl) v xT w
theorem staged_valueOfP (t : Addr) (w : World) : (ReflectliteValue.unpack (.iface 117 (.pointer (some t)))).run Tryd.prog w = .ok (.agg #[.pointer (some ⟨17, 117, none⟩), .pointer (some ⟨w.heap.size, 0, none⟩), .int .u64 150]) (w.alloc (.cells #[.pointer (some t)] 117)) := by kernel_rfl
theorem staged_type (a : Addr) (w : World) : (ReflectliteValue.methodAny (ReflectliteValue.valueError "reflectlite.Value.Type" 0) (fun t _ _ _ => ReflectliteType.toType t) #[.agg #[.pointer (some ⟨17, 117, none⟩), .pointer (some a), .int .u64 150]]).run Tryd.prog w = .ok (.iface 142 (.agg #[.pointer (some ⟨17, 117, none⟩)])) w := by kernel_rfl
theorem staged_kindP (w : World) : ((ReflectliteType.abiMethod fun t => (fun a : Nat => Value.int IntKind.u8 (a : Int)) <$> Rtype.kind t) #[.pointer (some ⟨17, 117, none⟩)]).run Tryd.prog w = .ok (.int .u8 22) w := by kernel_rfl
theorem staged_kind (w : World) : ((ReflectliteType.abiMethod fun t => (fun a : Nat => Value.int IntKind.u8 (a : Int)) <$> Rtype.kind t) #[.pointer (some ⟨17, 116, none⟩)]).run Tryd.prog w = .ok (.int .u8 22) w := by kernel_rfl
theorem staged_partsP (a : Addr) (w : World) : (ReflectliteValue.parts (.agg #[.pointer (some ⟨17, 117, none⟩), .pointer (some a), .int .u64 150])).run Tryd.prog w = .ok (some (117, a, 150)) w := by kernel_rfl
theorem staged_isNil (a p : Addr) (W : World) (ha : W.cell? a = some (.pointer (some p))) :
    (ReflectliteValue.method (ReflectliteValue.valueError "reflectlite.Value.IsNil" 0) ReflectliteValue.isNil #[.agg #[.pointer (some ⟨17, 117, none⟩), .pointer (some a), .int .u64 150]]).run Tryd.prog W = .ok (.bool false) W := by
  rw [rlm]
  simp only [Sem.run_bind, staged_partsP, Result.andThen]
  simp [ReflectliteValue.isNil, loadVar, isAgg, underlying, Tryd.underlying117, ha, Result.andThen]
theorem staged_elemT (w : World) : (ReflectliteType.method ReflectliteType.elem #[.agg #[.pointer (some ⟨17, 117, none⟩)]]).run Tryd.prog w = .ok (.iface 142 (.agg #[.pointer (some ⟨17, 116, none⟩)])) w := by kernel_rfl
theorem staged_impl (w : World) : (ReflectliteType.relation "Implements" ReflectliteType.implements_ #[.agg #[.pointer (some ⟨17, 116, none⟩)], .iface 142 (.agg #[.pointer (some ⟨17, 38, none⟩)])]).run Tryd.prog w = .ok (.bool true) w := by kernel_rfl
theorem staged_typeOf (v : Value) (w : World) : (ReflectliteType.typeOf #[.iface 116 v]).run Tryd.prog w = .ok (.iface 142 (.agg #[.pointer (some ⟨17, 116, none⟩)])) w := by kernel_rfl
theorem staged_valueOf (e : Addr) (w : World) : (ReflectliteValue.unpack (.iface 116 (.pointer (some e)))).run Tryd.prog w = .ok (.agg #[.pointer (some ⟨17, 116, none⟩), .pointer (some ⟨w.heap.size, 0, none⟩), .int .u64 150]) (w.alloc (.cells #[.pointer (some e)] 116)) := by kernel_rfl
theorem staged_elemOf (w : World) : (Rtype.elem? 117).run Tryd.prog w = .ok (some 116) w := by kernel_rfl
theorem staged_mk (p : Addr) (w : World) : (ReflectliteValue.mk 116 p ReflectliteValue.flagAddr).run Tryd.prog w = .ok (.agg #[.pointer (some ⟨17, 116, none⟩), .pointer (some p), .int .u64 406]) w := by kernel_rfl
theorem staged_elemV (a p : Addr) (W : World) (ha : W.cell? a = some (.pointer (some p))) :
    (ReflectliteValue.method (ReflectliteValue.valueError "reflectlite.Value.Elem" 0) ReflectliteValue.elem #[.agg #[.pointer (some ⟨17, 117, none⟩), .pointer (some a), .int .u64 150]]).run Tryd.prog W = .ok (.agg #[.pointer (some ⟨17, 116, none⟩), .pointer (some p), .int .u64 406]) W := by
  rw [rlm]
  simp only [Sem.run_bind, staged_partsP, Result.andThen]
  simp [ReflectliteValue.elem, loadVar, isAgg, underlying, Tryd.underlying117, ha, Result.andThen, staged_elemOf, staged_mk]
theorem staged_partsA (a : Addr) (w : World) : (ReflectliteValue.parts (.agg #[.pointer (some ⟨17, 116, none⟩), .pointer (some a), .int .u64 406])).run Tryd.prog w = .ok (some (116, a, 406)) w := by kernel_rfl
theorem staged_parts (a : Addr) (w : World) : (ReflectliteValue.parts (.agg #[.pointer (some ⟨17, 116, none⟩), .pointer (some a), .int .u64 150])).run Tryd.prog w = .ok (some (116, a, 150)) w := by kernel_rfl
theorem staged_direct (w : World) : (Rtype.directlyAssignable 116 116).run Tryd.prog w = .ok true w := by kernel_rfl
theorem staged_set (ta b e : Addr) (old : Value) (W : World) (hb : W.cell? b = some (.pointer (some e))) (ht : W.cell? ta = some old) (hf : W.frozen? ta = false) :
    (ReflectliteValue.set #[.agg #[.pointer (some ⟨17, 116, none⟩), .pointer (some ta), .int .u64 406], .agg #[.pointer (some ⟨17, 116, none⟩), .pointer (some b), .int .u64 150]]).run Tryd.prog W = .ok (.tuple #[]) (W.setCell ta (.pointer (some e))) := by
  have hsz : ∀ w, (sizeOf 116 : Sem Nat).run Tryd.prog w = .ok 1 w := fun w => by kernel_rfl
  rw [rls]
  simp only [Sem.run_bind, staged_partsA, staged_parts, Result.andThen]
  simp [ReflectliteValue.flagAddr, loadVar, isAgg, underlying, Tryd.underlying116, hb, Result.andThen, staged_direct, storeVar, Value.cells, storeCells, Addr.add, hsz]
  rw [run_store Tryd.prog W ta _ _ (by rfl)]
  simp [ht, hf]
theorem staged_assignE (w : World) : (ReflectliteType.relation "AssignableTo" ReflectliteType.assignableTo #[.agg #[.pointer (some ⟨17, 157, none⟩)], .iface 142 (.agg #[.pointer (some ⟨17, 116, none⟩)])]).run Tryd.prog w = .ok (.bool false) w := by kernel_rfl
theorem assign_placed_placed (w : World) : (ReflectliteType.relation "AssignableTo" ReflectliteType.assignableTo #[.agg #[.pointer (some ⟨17, 103, none⟩)], .iface 142 (.agg #[.pointer (some ⟨17, 103, none⟩)])]).run Tryd.prog w = .ok (.bool true) w := by kernel_rfl
theorem assign_placed_named (w : World) : (ReflectliteType.relation "AssignableTo" ReflectliteType.assignableTo #[.agg #[.pointer (some ⟨17, 103, none⟩)], .iface 142 (.agg #[.pointer (some ⟨17, 108, none⟩)])]).run Tryd.prog w = .ok (.bool false) w := by kernel_rfl
theorem assign_placed_ruled (w : World) : (ReflectliteType.relation "AssignableTo" ReflectliteType.assignableTo #[.agg #[.pointer (some ⟨17, 103, none⟩)], .iface 142 (.agg #[.pointer (some ⟨17, 112, none⟩)])]).run Tryd.prog w = .ok (.bool false) w := by kernel_rfl
theorem assign_placed_staged (w : World) : (ReflectliteType.relation "AssignableTo" ReflectliteType.assignableTo #[.agg #[.pointer (some ⟨17, 103, none⟩)], .iface 142 (.agg #[.pointer (some ⟨17, 116, none⟩)])]).run Tryd.prog w = .ok (.bool false) w := by kernel_rfl
theorem assign_named_placed (w : World) : (ReflectliteType.relation "AssignableTo" ReflectliteType.assignableTo #[.agg #[.pointer (some ⟨17, 108, none⟩)], .iface 142 (.agg #[.pointer (some ⟨17, 103, none⟩)])]).run Tryd.prog w = .ok (.bool false) w := by kernel_rfl
theorem assign_named_named (w : World) : (ReflectliteType.relation "AssignableTo" ReflectliteType.assignableTo #[.agg #[.pointer (some ⟨17, 108, none⟩)], .iface 142 (.agg #[.pointer (some ⟨17, 108, none⟩)])]).run Tryd.prog w = .ok (.bool true) w := by kernel_rfl
theorem assign_named_ruled (w : World) : (ReflectliteType.relation "AssignableTo" ReflectliteType.assignableTo #[.agg #[.pointer (some ⟨17, 108, none⟩)], .iface 142 (.agg #[.pointer (some ⟨17, 112, none⟩)])]).run Tryd.prog w = .ok (.bool false) w := by kernel_rfl
theorem assign_named_staged (w : World) : (ReflectliteType.relation "AssignableTo" ReflectliteType.assignableTo #[.agg #[.pointer (some ⟨17, 108, none⟩)], .iface 142 (.agg #[.pointer (some ⟨17, 116, none⟩)])]).run Tryd.prog w = .ok (.bool false) w := by kernel_rfl
theorem assign_ruled_placed (w : World) : (ReflectliteType.relation "AssignableTo" ReflectliteType.assignableTo #[.agg #[.pointer (some ⟨17, 112, none⟩)], .iface 142 (.agg #[.pointer (some ⟨17, 103, none⟩)])]).run Tryd.prog w = .ok (.bool false) w := by kernel_rfl
theorem assign_ruled_named (w : World) : (ReflectliteType.relation "AssignableTo" ReflectliteType.assignableTo #[.agg #[.pointer (some ⟨17, 112, none⟩)], .iface 142 (.agg #[.pointer (some ⟨17, 108, none⟩)])]).run Tryd.prog w = .ok (.bool false) w := by kernel_rfl
theorem assign_ruled_ruled (w : World) : (ReflectliteType.relation "AssignableTo" ReflectliteType.assignableTo #[.agg #[.pointer (some ⟨17, 112, none⟩)], .iface 142 (.agg #[.pointer (some ⟨17, 112, none⟩)])]).run Tryd.prog w = .ok (.bool true) w := by kernel_rfl
theorem assign_ruled_staged (w : World) : (ReflectliteType.relation "AssignableTo" ReflectliteType.assignableTo #[.agg #[.pointer (some ⟨17, 112, none⟩)], .iface 142 (.agg #[.pointer (some ⟨17, 116, none⟩)])]).run Tryd.prog w = .ok (.bool false) w := by kernel_rfl
theorem assign_staged_placed (w : World) : (ReflectliteType.relation "AssignableTo" ReflectliteType.assignableTo #[.agg #[.pointer (some ⟨17, 116, none⟩)], .iface 142 (.agg #[.pointer (some ⟨17, 103, none⟩)])]).run Tryd.prog w = .ok (.bool false) w := by kernel_rfl
theorem assign_staged_named (w : World) : (ReflectliteType.relation "AssignableTo" ReflectliteType.assignableTo #[.agg #[.pointer (some ⟨17, 116, none⟩)], .iface 142 (.agg #[.pointer (some ⟨17, 108, none⟩)])]).run Tryd.prog w = .ok (.bool false) w := by kernel_rfl
theorem assign_staged_ruled (w : World) : (ReflectliteType.relation "AssignableTo" ReflectliteType.assignableTo #[.agg #[.pointer (some ⟨17, 116, none⟩)], .iface 142 (.agg #[.pointer (some ⟨17, 112, none⟩)])]).run Tryd.prog w = .ok (.bool false) w := by kernel_rfl
theorem assign_staged_staged (w : World) : (ReflectliteType.relation "AssignableTo" ReflectliteType.assignableTo #[.agg #[.pointer (some ⟨17, 116, none⟩)], .iface 142 (.agg #[.pointer (some ⟨17, 116, none⟩)])]).run Tryd.prog w = .ok (.bool true) w := by kernel_rfl

end Go.Proofs.YtcbfmajojkcibaaDoor
