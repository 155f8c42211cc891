/- errors.As of errors that are sentinels or wrap one, at a variable of one of the wrappers' types. No condition. Printed by gen_as.py. -/
import Derived.Test.YtihjmeoklbmnmaaDoorPErrIs
namespace Go.Proofs.YtihjmeoklbmnmaaDoor
open Go Go.RowKit Go.Extern.Stop Go.Stop Go.Extern

deriving instance DecidableEq for Wr
/-- The outermost wrapper of a kind. -/
def Er.first (k : Wr) : Er → Option Nat
  | .leaf _ => none
  | .wrap k' b _ e => if k' = k then some b else e.first k
/-- What errors.as and errors.As tell, and what they leave. -/
def AsTold (W w' : World) (k : Wr) (e : Er) (tb : Nat) (x : Ending) : Prop := ∃ w1, Gr W w1 ∧ match e.first k with
  | none => x = .returned (.bool false) ∧ w' = w1
  | some b => x = .returned (.bool true) ∧ w' = w1.setCell ⟨tb, 0, none⟩ (.pointer (some ⟨b, 0, none⟩))

theorem rlm (z : Sem Value) (f : TypeId → Addr → Nat → Nat → Sem Value) (v : Value) :
    ReflectliteValue.method z f #[v] = (do match ← ReflectliteValue.parts v with | none => z | some (t, a, fl) => f t a fl (fl % 32)) := rfl
theorem rls (v x : Value) : ReflectliteValue.set #[v, x] = (do
    let (some (dst, a, fl), some (src, b, _)) := (← ReflectliteValue.parts v, ← ReflectliteValue.parts x)
      | unsupported (.noEntry "extern/(internal/reflectlite.Value).Set.zeroValue")
    if fl / ReflectliteValue.flagAddr % 2 == 0 then unsupported (.noEntry "extern/(internal/reflectlite.Value).Set.unaddressable")
    let val ← loadVar src b
    if ← Rtype.directlyAssignable dst src then storeVar dst a val
    else if ← Rtype.implements dst src then
      if (← Rtype.kind src) == 20 then
        match val with
        | .nilIface => unsupported (.noEntry "extern/reflectlite: a nil value of one interface type handed on as a value of another")
        | _ => storeVar dst a val
      else storeVar dst a (.iface src val)
    else panicString ("reflectlite.Set: value of type " ++ (← Rtype.spelt src) ++ " is not assignable to type " ++ (← Rtype.spelt dst))
    pure (.tuple #[])) := rfl
theorem rt_kind (h : Value) (w : World) : (Go.method 285 129 (.agg #[h]) "Kind").run Tryd.prog w = .ok (97, h) w := by kernel_rfl
theorem rt_elem (h : Value) (w : World) : (Go.method 285 129 (.agg #[h]) "Elem").run Tryd.prog w = .ok (115, .agg #[h]) w := by kernel_rfl
theorem rt_impl (h : Value) (w : World) : (Go.method 285 129 (.agg #[h]) "Implements").run Tryd.prog w = .ok (116, .agg #[h]) w := by kernel_rfl
theorem rt_assign (h : Value) (w : World) : (Go.method 285 129 (.agg #[h]) "AssignableTo").run Tryd.prog w = .ok (113, .agg #[h]) w := by kernel_rfl
theorem es_noAs (v : Value) (xT : TypeId) (w : World) : (Instr.typeAssert (.iface 154 v) xT 133 true).run Tryd.prog w = .ok (.tuple #[.nilIface, .bool false]) w := run_typeAssert_lacksB Tryd.underlying133 (by kernel_rfl) (by kernel_rfl) v xT w
theorem placed_noAs (v : Value) (xT : TypeId) (w : World) : (Instr.typeAssert (.iface 92 v) xT 133 true).run Tryd.prog w = .ok (.tuple #[.nilIface, .bool false]) w := run_typeAssert_lacksB Tryd.underlying133 (by kernel_rfl) (by kernel_rfl) v xT w
theorem placed_valueOfP (t : Addr) (w : World) : (ReflectliteValue.unpack (.iface 94 (.pointer (some t)))).run Tryd.prog w = .ok (.agg #[.pointer (some ⟨18, 94, none⟩), .pointer (some ⟨w.heap.size, 0, none⟩), .int .u64 150]) (w.alloc (.cells #[.pointer (some t)] 94)) := by kernel_rfl
theorem placed_type (a : Addr) (w : World) : (ReflectliteValue.methodAny (ReflectliteValue.valueError "reflectlite.Value.Type" 0) (fun t _ _ _ => ReflectliteType.toType t) #[.agg #[.pointer (some ⟨18, 94, none⟩), .pointer (some a), .int .u64 150]]).run Tryd.prog w = .ok (.iface 129 (.agg #[.pointer (some ⟨18, 94, none⟩)])) w := by kernel_rfl
theorem placed_kindP (w : World) : ((ReflectliteType.abiMethod fun t => (fun a : Nat => Value.int IntKind.u8 (a : Int)) <$> Rtype.kind t) #[.pointer (some ⟨18, 94, none⟩)]).run Tryd.prog w = .ok (.int .u8 22) w := by kernel_rfl
theorem placed_kind (w : World) : ((ReflectliteType.abiMethod fun t => (fun a : Nat => Value.int IntKind.u8 (a : Int)) <$> Rtype.kind t) #[.pointer (some ⟨18, 92, none⟩)]).run Tryd.prog w = .ok (.int .u8 22) w := by kernel_rfl
theorem placed_partsP (a : Addr) (w : World) : (ReflectliteValue.parts (.agg #[.pointer (some ⟨18, 94, none⟩), .pointer (some a), .int .u64 150])).run Tryd.prog w = .ok (some (94, a, 150)) w := by kernel_rfl
theorem placed_isNil (a p : Addr) (W : World) (ha : W.cell? a = some (.pointer (some p))) :
    (ReflectliteValue.method (ReflectliteValue.valueError "reflectlite.Value.IsNil" 0) ReflectliteValue.isNil #[.agg #[.pointer (some ⟨18, 94, none⟩), .pointer (some a), .int .u64 150]]).run Tryd.prog W = .ok (.bool false) W := by
  rw [rlm]
  simp only [Sem.run_bind, placed_partsP, Result.andThen]
  simp [ReflectliteValue.isNil, loadVar, isAgg, underlying, Tryd.underlying94, ha, Result.andThen]
theorem placed_elemT (w : World) : (ReflectliteType.method ReflectliteType.elem #[.agg #[.pointer (some ⟨18, 94, none⟩)]]).run Tryd.prog w = .ok (.iface 129 (.agg #[.pointer (some ⟨18, 92, none⟩)])) w := by kernel_rfl
theorem placed_impl (w : World) : (ReflectliteType.relation "Implements" ReflectliteType.implements_ #[.agg #[.pointer (some ⟨18, 92, none⟩)], .iface 129 (.agg #[.pointer (some ⟨18, 34, none⟩)])]).run Tryd.prog w = .ok (.bool true) w := by kernel_rfl
theorem placed_typeOf (v : Value) (w : World) : (ReflectliteType.typeOf #[.iface 92 v]).run Tryd.prog w = .ok (.iface 129 (.agg #[.pointer (some ⟨18, 92, none⟩)])) w := by kernel_rfl
theorem placed_valueOf (e : Addr) (w : World) : (ReflectliteValue.unpack (.iface 92 (.pointer (some e)))).run Tryd.prog w = .ok (.agg #[.pointer (some ⟨18, 92, none⟩), .pointer (some ⟨w.heap.size, 0, none⟩), .int .u64 150]) (w.alloc (.cells #[.pointer (some e)] 92)) := by kernel_rfl
theorem placed_elemOf (w : World) : (Rtype.elem? 94).run Tryd.prog w = .ok (some 92) w := by kernel_rfl
theorem placed_mk (p : Addr) (w : World) : (ReflectliteValue.mk 92 p ReflectliteValue.flagAddr).run Tryd.prog w = .ok (.agg #[.pointer (some ⟨18, 92, none⟩), .pointer (some p), .int .u64 406]) w := by kernel_rfl
theorem placed_elemV (a p : Addr) (W : World) (ha : W.cell? a = some (.pointer (some p))) :
    (ReflectliteValue.method (ReflectliteValue.valueError "reflectlite.Value.Elem" 0) ReflectliteValue.elem #[.agg #[.pointer (some ⟨18, 94, none⟩), .pointer (some a), .int .u64 150]]).run Tryd.prog W = .ok (.agg #[.pointer (some ⟨18, 92, none⟩), .pointer (some p), .int .u64 406]) W := by
  rw [rlm]
  simp only [Sem.run_bind, placed_partsP, Result.andThen]
  simp [ReflectliteValue.elem, loadVar, isAgg, underlying, Tryd.underlying94, ha, Result.andThen, placed_elemOf, placed_mk]
theorem placed_partsA (a : Addr) (w : World) : (ReflectliteValue.parts (.agg #[.pointer (some ⟨18, 92, none⟩), .pointer (some a), .int .u64 406])).run Tryd.prog w = .ok (some (92, a, 406)) w := by kernel_rfl
theorem placed_parts (a : Addr) (w : World) : (ReflectliteValue.parts (.agg #[.pointer (some ⟨18, 92, none⟩), .pointer (some a), .int .u64 150])).run Tryd.prog w = .ok (some (92, a, 150)) w := by kernel_rfl
theorem placed_direct (w : World) : (Rtype.directlyAssignable 92 92).run Tryd.prog w = .ok true w := by kernel_rfl
theorem placed_set (ta b e : Addr) (old : Value) (W : World) (hb : W.cell? b = some (.pointer (some e))) (ht : W.cell? ta = some old) (hf : W.frozen? ta = false) :
    (ReflectliteValue.set #[.agg #[.pointer (some ⟨18, 92, none⟩), .pointer (some ta), .int .u64 406], .agg #[.pointer (some ⟨18, 92, none⟩), .pointer (some b), .int .u64 150]]).run Tryd.prog W = .ok (.tuple #[]) (W.setCell ta (.pointer (some e))) := by
  have hsz : ∀ w, (sizeOf 92 : Sem Nat).run Tryd.prog w = .ok 1 w := fun w => by kernel_rfl
  rw [rls]
  simp only [Sem.run_bind, placed_partsA, placed_parts, Result.andThen]
  simp [ReflectliteValue.flagAddr, loadVar, isAgg, underlying, Tryd.underlying92, hb, Result.andThen, placed_direct, storeVar, Value.cells, storeCells, Addr.add, hsz]
  rw [run_store Tryd.prog W ta _ _ (by rfl)]
  simp [ht, hf]
theorem placed_assignE (w : World) : (ReflectliteType.relation "AssignableTo" ReflectliteType.assignableTo #[.agg #[.pointer (some ⟨18, 154, none⟩)], .iface 129 (.agg #[.pointer (some ⟨18, 92, none⟩)])]).run Tryd.prog w = .ok (.bool false) w := by kernel_rfl
theorem named_noAs (v : Value) (xT : TypeId) (w : World) : (Instr.typeAssert (.iface 97 v) xT 133 true).run Tryd.prog w = .ok (.tuple #[.nilIface, .bool false]) w := run_typeAssert_lacksB Tryd.underlying133 (by kernel_rfl) (by kernel_rfl) v xT w
theorem named_valueOfP (t : Addr) (w : World) : (ReflectliteValue.unpack (.iface 98 (.pointer (some t)))).run Tryd.prog w = .ok (.agg #[.pointer (some ⟨18, 98, none⟩), .pointer (some ⟨w.heap.size, 0, none⟩), .int .u64 150]) (w.alloc (.cells #[.pointer (some t)] 98)) := by kernel_rfl
theorem named_type (a : Addr) (w : World) : (ReflectliteValue.methodAny (ReflectliteValue.valueError "reflectlite.Value.Type" 0) (fun t _ _ _ => ReflectliteType.toType t) #[.agg #[.pointer (some ⟨18, 98, none⟩), .pointer (some a), .int .u64 150]]).run Tryd.prog w = .ok (.iface 129 (.agg #[.pointer (some ⟨18, 98, none⟩)])) w := by kernel_rfl
theorem named_kindP (w : World) : ((ReflectliteType.abiMethod fun t => (fun a : Nat => Value.int IntKind.u8 (a : Int)) <$> Rtype.kind t) #[.pointer (some ⟨18, 98, none⟩)]).run Tryd.prog w = .ok (.int .u8 22) w := by kernel_rfl
theorem named_kind (w : World) : ((ReflectliteType.abiMethod fun t => (fun a : Nat => Value.int IntKind.u8 (a : Int)) <$> Rtype.kind t) #[.pointer (some ⟨18, 97, none⟩)]).run Tryd.prog w = .ok (.int .u8 22) w := by kernel_rfl
theorem named_partsP (a : Addr) (w : World) : (ReflectliteValue.parts (.agg #[.pointer (some ⟨18, 98, none⟩), .pointer (some a), .int .u64 150])).run Tryd.prog w = .ok (some (98, a, 150)) w := by kernel_rfl
theorem named_isNil (a p : Addr) (W : World) (ha : W.cell? a = some (.pointer (some p))) :
    (ReflectliteValue.method (ReflectliteValue.valueError "reflectlite.Value.IsNil" 0) ReflectliteValue.isNil #[.agg #[.pointer (some ⟨18, 98, none⟩), .pointer (some a), .int .u64 150]]).run Tryd.prog W = .ok (.bool false) W := by
  rw [rlm]
  simp only [Sem.run_bind, named_partsP, Result.andThen]
  simp [ReflectliteValue.isNil, loadVar, isAgg, underlying, Tryd.underlying98, ha, Result.andThen]
theorem named_elemT (w : World) : (ReflectliteType.method ReflectliteType.elem #[.agg #[.pointer (some ⟨18, 98, none⟩)]]).run Tryd.prog w = .ok (.iface 129 (.agg #[.pointer (some ⟨18, 97, none⟩)])) w := by kernel_rfl
theorem named_impl (w : World) : (ReflectliteType.relation "Implements" ReflectliteType.implements_ #[.agg #[.pointer (some ⟨18, 97, none⟩)], .iface 129 (.agg #[.pointer (some ⟨18, 34, none⟩)])]).run Tryd.prog w = .ok (.bool true) w := by kernel_rfl
theorem named_typeOf (v : Value) (w : World) : (ReflectliteType.typeOf #[.iface 97 v]).run Tryd.prog w = .ok (.iface 129 (.agg #[.pointer (some ⟨18, 97, none⟩)])) w := by kernel_rfl
theorem named_valueOf (e : Addr) (w : World) : (ReflectliteValue.unpack (.iface 97 (.pointer (some e)))).run Tryd.prog w = .ok (.agg #[.pointer (some ⟨18, 97, none⟩), .pointer (some ⟨w.heap.size, 0, none⟩), .int .u64 150]) (w.alloc (.cells #[.pointer (some e)] 97)) := by kernel_rfl
theorem named_elemOf (w : World) : (Rtype.elem? 98).run Tryd.prog w = .ok (some 97) w := by kernel_rfl
theorem named_mk (p : Addr) (w : World) : (ReflectliteValue.mk 97 p ReflectliteValue.flagAddr).run Tryd.prog w = .ok (.agg #[.pointer (some ⟨18, 97, none⟩), .pointer (some p), .int .u64 406]) w := by kernel_rfl
theorem named_elemV (a p : Addr) (W : World) (ha : W.cell? a = some (.pointer (some p))) :
    (ReflectliteValue.method (ReflectliteValue.valueError "reflectlite.Value.Elem" 0) ReflectliteValue.elem #[.agg #[.pointer (some ⟨18, 98, none⟩), .pointer (some a), .int .u64 150]]).run Tryd.prog W = .ok (.agg #[.pointer (some ⟨18, 97, none⟩), .pointer (some p), .int .u64 406]) W := by
  rw [rlm]
  simp only [Sem.run_bind, named_partsP, Result.andThen]
  simp [ReflectliteValue.elem, loadVar, isAgg, underlying, Tryd.underlying98, ha, Result.andThen, named_elemOf, named_mk]
theorem named_partsA (a : Addr) (w : World) : (ReflectliteValue.parts (.agg #[.pointer (some ⟨18, 97, none⟩), .pointer (some a), .int .u64 406])).run Tryd.prog w = .ok (some (97, a, 406)) w := by kernel_rfl
theorem named_parts (a : Addr) (w : World) : (ReflectliteValue.parts (.agg #[.pointer (some ⟨18, 97, none⟩), .pointer (some a), .int .u64 150])).run Tryd.prog w = .ok (some (97, a, 150)) w := by kernel_rfl
theorem named_direct (w : World) : (Rtype.directlyAssignable 97 97).run Tryd.prog w = .ok true w := by kernel_rfl
theorem named_set (ta b e : Addr) (old : Value) (W : World) (hb : W.cell? b = some (.pointer (some e))) (ht : W.cell? ta = some old) (hf : W.frozen? ta = false) :
    (ReflectliteValue.set #[.agg #[.pointer (some ⟨18, 97, none⟩), .pointer (some ta), .int .u64 406], .agg #[.pointer (some ⟨18, 97, none⟩), .pointer (some b), .int .u64 150]]).run Tryd.prog W = .ok (.tuple #[]) (W.setCell ta (.pointer (some e))) := by
  have hsz : ∀ w, (sizeOf 97 : Sem Nat).run Tryd.prog w = .ok 1 w := fun w => by kernel_rfl
  rw [rls]
  simp only [Sem.run_bind, named_partsA, named_parts, Result.andThen]
  simp [ReflectliteValue.flagAddr, loadVar, isAgg, underlying, Tryd.underlying97, hb, Result.andThen, named_direct, storeVar, Value.cells, storeCells, Addr.add, hsz]
  rw [run_store Tryd.prog W ta _ _ (by rfl)]
  simp [ht, hf]
theorem named_assignE (w : World) : (ReflectliteType.relation "AssignableTo" ReflectliteType.assignableTo #[.agg #[.pointer (some ⟨18, 154, none⟩)], .iface 129 (.agg #[.pointer (some ⟨18, 97, none⟩)])]).run Tryd.prog w = .ok (.bool false) w := by kernel_rfl
theorem ruled_noAs (v : Value) (xT : TypeId) (w : World) : (Instr.typeAssert (.iface 102 v) xT 133 true).run Tryd.prog w = .ok (.tuple #[.nilIface, .bool false]) w := run_typeAssert_lacksB Tryd.underlying133 (by kernel_rfl) (by kernel_rfl) v xT w
theorem ruled_valueOfP (t : Addr) (w : World) : (ReflectliteValue.unpack (.iface 103 (.pointer (some t)))).run Tryd.prog w = .ok (.agg #[.pointer (some ⟨18, 103, none⟩), .pointer (some ⟨w.heap.size, 0, none⟩), .int .u64 150]) (w.alloc (.cells #[.pointer (some t)] 103)) := by kernel_rfl
theorem ruled_type (a : Addr) (w : World) : (ReflectliteValue.methodAny (ReflectliteValue.valueError "reflectlite.Value.Type" 0) (fun t _ _ _ => ReflectliteType.toType t) #[.agg #[.pointer (some ⟨18, 103, none⟩), .pointer (some a), .int .u64 150]]).run Tryd.prog w = .ok (.iface 129 (.agg #[.pointer (some ⟨18, 103, none⟩)])) w := by kernel_rfl
theorem ruled_kindP (w : World) : ((ReflectliteType.abiMethod fun t => (fun a : Nat => Value.int IntKind.u8 (a : Int)) <$> Rtype.kind t) #[.pointer (some ⟨18, 103, none⟩)]).run Tryd.prog w = .ok (.int .u8 22) w := by kernel_rfl
theorem ruled_kind (w : World) : ((ReflectliteType.abiMethod fun t => (fun a : Nat => Value.int IntKind.u8 (a : Int)) <$> Rtype.kind t) #[.pointer (some ⟨18, 102, none⟩)]).run Tryd.prog w = .ok (.int .u8 22) w := by kernel_rfl
theorem ruled_partsP (a : Addr) (w : World) : (ReflectliteValue.parts (.agg #[.pointer (some ⟨18, 103, none⟩), .pointer (some a), .int .u64 150])).run Tryd.prog w = .ok (some (103, a, 150)) w := by kernel_rfl
theorem ruled_isNil (a p : Addr) (W : World) (ha : W.cell? a = some (.pointer (some p))) :
    (ReflectliteValue.method (ReflectliteValue.valueError "reflectlite.Value.IsNil" 0) ReflectliteValue.isNil #[.agg #[.pointer (some ⟨18, 103, none⟩), .pointer (some a), .int .u64 150]]).run Tryd.prog W = .ok (.bool false) W := by
  rw [rlm]
  simp only [Sem.run_bind, ruled_partsP, Result.andThen]
  simp [ReflectliteValue.isNil, loadVar, isAgg, underlying, Tryd.underlying103, ha, Result.andThen]
theorem ruled_elemT (w : World) : (ReflectliteType.method ReflectliteType.elem #[.agg #[.pointer (some ⟨18, 103, none⟩)]]).run Tryd.prog w = .ok (.iface 129 (.agg #[.pointer (some ⟨18, 102, none⟩)])) w := by kernel_rfl
theorem ruled_impl (w : World) : (ReflectliteType.relation "Implements" ReflectliteType.implements_ #[.agg #[.pointer (some ⟨18, 102, none⟩)], .iface 129 (.agg #[.pointer (some ⟨18, 34, none⟩)])]).run Tryd.prog w = .ok (.bool true) w := by kernel_rfl
theorem ruled_typeOf (v : Value) (w : World) : (ReflectliteType.typeOf #[.iface 102 v]).run Tryd.prog w = .ok (.iface 129 (.agg #[.pointer (some ⟨18, 102, none⟩)])) w := by kernel_rfl
theorem ruled_valueOf (e : Addr) (w : World) : (ReflectliteValue.unpack (.iface 102 (.pointer (some e)))).run Tryd.prog w = .ok (.agg #[.pointer (some ⟨18, 102, none⟩), .pointer (some ⟨w.heap.size, 0, none⟩), .int .u64 150]) (w.alloc (.cells #[.pointer (some e)] 102)) := by kernel_rfl
theorem ruled_elemOf (w : World) : (Rtype.elem? 103).run Tryd.prog w = .ok (some 102) w := by kernel_rfl
theorem ruled_mk (p : Addr) (w : World) : (ReflectliteValue.mk 102 p ReflectliteValue.flagAddr).run Tryd.prog w = .ok (.agg #[.pointer (some ⟨18, 102, none⟩), .pointer (some p), .int .u64 406]) w := by kernel_rfl
theorem ruled_elemV (a p : Addr) (W : World) (ha : W.cell? a = some (.pointer (some p))) :
    (ReflectliteValue.method (ReflectliteValue.valueError "reflectlite.Value.Elem" 0) ReflectliteValue.elem #[.agg #[.pointer (some ⟨18, 103, none⟩), .pointer (some a), .int .u64 150]]).run Tryd.prog W = .ok (.agg #[.pointer (some ⟨18, 102, none⟩), .pointer (some p), .int .u64 406]) W := by
  rw [rlm]
  simp only [Sem.run_bind, ruled_partsP, Result.andThen]
  simp [ReflectliteValue.elem, loadVar, isAgg, underlying, Tryd.underlying103, ha, Result.andThen, ruled_elemOf, ruled_mk]
theorem ruled_partsA (a : Addr) (w : World) : (ReflectliteValue.parts (.agg #[.pointer (some ⟨18, 102, none⟩), .pointer (some a), .int .u64 406])).run Tryd.prog w = .ok (some (102, a, 406)) w := by kernel_rfl
theorem ruled_parts (a : Addr) (w : World) : (ReflectliteValue.parts (.agg #[.pointer (some ⟨18, 102, none⟩), .pointer (some a), .int .u64 150])).run Tryd.prog w = .ok (some (102, a, 150)) w := by kernel_rfl
theorem ruled_direct (w : World) : (Rtype.directlyAssignable 102 102).run Tryd.prog w = .ok true w := by kernel_rfl
theorem ruled_set (ta b e : Addr) (old : Value) (W : World) (hb : W.cell? b = some (.pointer (some e))) (ht : W.cell? ta = some old) (hf : W.frozen? ta = false) :
    (ReflectliteValue.set #[.agg #[.pointer (some ⟨18, 102, none⟩), .pointer (some ta), .int .u64 406], .agg #[.pointer (some ⟨18, 102, none⟩), .pointer (some b), .int .u64 150]]).run Tryd.prog W = .ok (.tuple #[]) (W.setCell ta (.pointer (some e))) := by
  have hsz : ∀ w, (sizeOf 102 : Sem Nat).run Tryd.prog w = .ok 1 w := fun w => by kernel_rfl
  rw [rls]
  simp only [Sem.run_bind, ruled_partsA, ruled_parts, Result.andThen]
  simp [ReflectliteValue.flagAddr, loadVar, isAgg, underlying, Tryd.underlying102, hb, Result.andThen, ruled_direct, storeVar, Value.cells, storeCells, Addr.add, hsz]
  rw [run_store Tryd.prog W ta _ _ (by rfl)]
  simp [ht, hf]
theorem ruled_assignE (w : World) : (ReflectliteType.relation "AssignableTo" ReflectliteType.assignableTo #[.agg #[.pointer (some ⟨18, 154, none⟩)], .iface 129 (.agg #[.pointer (some ⟨18, 102, none⟩)])]).run Tryd.prog w = .ok (.bool false) w := by kernel_rfl
theorem staged_noAs (v : Value) (xT : TypeId) (w : World) : (Instr.typeAssert (.iface 106 v) xT 133 true).run Tryd.prog w = .ok (.tuple #[.nilIface, .bool false]) w := run_typeAssert_lacksB Tryd.underlying133 (by kernel_rfl) (by kernel_rfl) v xT w
theorem staged_valueOfP (t : Addr) (w : World) : (ReflectliteValue.unpack (.iface 107 (.pointer (some t)))).run Tryd.prog w = .ok (.agg #[.pointer (some ⟨18, 107, none⟩), .pointer (some ⟨w.heap.size, 0, none⟩), .int .u64 150]) (w.alloc (.cells #[.pointer (some t)] 107)) := by kernel_rfl
theorem staged_type (a : Addr) (w : World) : (ReflectliteValue.methodAny (ReflectliteValue.valueError "reflectlite.Value.Type" 0) (fun t _ _ _ => ReflectliteType.toType t) #[.agg #[.pointer (some ⟨18, 107, none⟩), .pointer (some a), .int .u64 150]]).run Tryd.prog w = .ok (.iface 129 (.agg #[.pointer (some ⟨18, 107, none⟩)])) w := by kernel_rfl
theorem staged_kindP (w : World) : ((ReflectliteType.abiMethod fun t => (fun a : Nat => Value.int IntKind.u8 (a : Int)) <$> Rtype.kind t) #[.pointer (some ⟨18, 107, none⟩)]).run Tryd.prog w = .ok (.int .u8 22) w := by kernel_rfl
theorem staged_kind (w : World) : ((ReflectliteType.abiMethod fun t => (fun a : Nat => Value.int IntKind.u8 (a : Int)) <$> Rtype.kind t) #[.pointer (some ⟨18, 106, none⟩)]).run Tryd.prog w = .ok (.int .u8 22) w := by kernel_rfl
theorem staged_partsP (a : Addr) (w : World) : (ReflectliteValue.parts (.agg #[.pointer (some ⟨18, 107, none⟩), .pointer (some a), .int .u64 150])).run Tryd.prog w = .ok (some (107, a, 150)) w := by kernel_rfl
theorem staged_isNil (a p : Addr) (W : World) (ha : W.cell? a = some (.pointer (some p))) :
    (ReflectliteValue.method (ReflectliteValue.valueError "reflectlite.Value.IsNil" 0) ReflectliteValue.isNil #[.agg #[.pointer (some ⟨18, 107, none⟩), .pointer (some a), .int .u64 150]]).run Tryd.prog W = .ok (.bool false) W := by
  rw [rlm]
  simp only [Sem.run_bind, staged_partsP, Result.andThen]
  simp [ReflectliteValue.isNil, loadVar, isAgg, underlying, Tryd.underlying107, ha, Result.andThen]
theorem staged_elemT (w : World) : (ReflectliteType.method ReflectliteType.elem #[.agg #[.pointer (some ⟨18, 107, none⟩)]]).run Tryd.prog w = .ok (.iface 129 (.agg #[.pointer (some ⟨18, 106, none⟩)])) w := by kernel_rfl
theorem staged_impl (w : World) : (ReflectliteType.relation "Implements" ReflectliteType.implements_ #[.agg #[.pointer (some ⟨18, 106, none⟩)], .iface 129 (.agg #[.pointer (some ⟨18, 34, none⟩)])]).run Tryd.prog w = .ok (.bool true) w := by kernel_rfl
theorem staged_typeOf (v : Value) (w : World) : (ReflectliteType.typeOf #[.iface 106 v]).run Tryd.prog w = .ok (.iface 129 (.agg #[.pointer (some ⟨18, 106, none⟩)])) w := by kernel_rfl
theorem staged_valueOf (e : Addr) (w : World) : (ReflectliteValue.unpack (.iface 106 (.pointer (some e)))).run Tryd.prog w = .ok (.agg #[.pointer (some ⟨18, 106, none⟩), .pointer (some ⟨w.heap.size, 0, none⟩), .int .u64 150]) (w.alloc (.cells #[.pointer (some e)] 106)) := by kernel_rfl
theorem staged_elemOf (w : World) : (Rtype.elem? 107).run Tryd.prog w = .ok (some 106) w := by kernel_rfl
theorem staged_mk (p : Addr) (w : World) : (ReflectliteValue.mk 106 p ReflectliteValue.flagAddr).run Tryd.prog w = .ok (.agg #[.pointer (some ⟨18, 106, none⟩), .pointer (some p), .int .u64 406]) w := by kernel_rfl
theorem staged_elemV (a p : Addr) (W : World) (ha : W.cell? a = some (.pointer (some p))) :
    (ReflectliteValue.method (ReflectliteValue.valueError "reflectlite.Value.Elem" 0) ReflectliteValue.elem #[.agg #[.pointer (some ⟨18, 107, none⟩), .pointer (some a), .int .u64 150]]).run Tryd.prog W = .ok (.agg #[.pointer (some ⟨18, 106, none⟩), .pointer (some p), .int .u64 406]) W := by
  rw [rlm]
  simp only [Sem.run_bind, staged_partsP, Result.andThen]
  simp [ReflectliteValue.elem, loadVar, isAgg, underlying, Tryd.underlying107, ha, Result.andThen, staged_elemOf, staged_mk]
theorem staged_partsA (a : Addr) (w : World) : (ReflectliteValue.parts (.agg #[.pointer (some ⟨18, 106, none⟩), .pointer (some a), .int .u64 406])).run Tryd.prog w = .ok (some (106, a, 406)) w := by kernel_rfl
theorem staged_parts (a : Addr) (w : World) : (ReflectliteValue.parts (.agg #[.pointer (some ⟨18, 106, none⟩), .pointer (some a), .int .u64 150])).run Tryd.prog w = .ok (some (106, a, 150)) w := by kernel_rfl
theorem staged_direct (w : World) : (Rtype.directlyAssignable 106 106).run Tryd.prog w = .ok true w := by kernel_rfl
theorem staged_set (ta b e : Addr) (old : Value) (W : World) (hb : W.cell? b = some (.pointer (some e))) (ht : W.cell? ta = some old) (hf : W.frozen? ta = false) :
    (ReflectliteValue.set #[.agg #[.pointer (some ⟨18, 106, none⟩), .pointer (some ta), .int .u64 406], .agg #[.pointer (some ⟨18, 106, none⟩), .pointer (some b), .int .u64 150]]).run Tryd.prog W = .ok (.tuple #[]) (W.setCell ta (.pointer (some e))) := by
  have hsz : ∀ w, (sizeOf 106 : Sem Nat).run Tryd.prog w = .ok 1 w := fun w => by kernel_rfl
  rw [rls]
  simp only [Sem.run_bind, staged_partsA, staged_parts, Result.andThen]
  simp [ReflectliteValue.flagAddr, loadVar, isAgg, underlying, Tryd.underlying106, hb, Result.andThen, staged_direct, storeVar, Value.cells, storeCells, Addr.add, hsz]
  rw [run_store Tryd.prog W ta _ _ (by rfl)]
  simp [ht, hf]
theorem staged_assignE (w : World) : (ReflectliteType.relation "AssignableTo" ReflectliteType.assignableTo #[.agg #[.pointer (some ⟨18, 154, none⟩)], .iface 129 (.agg #[.pointer (some ⟨18, 106, none⟩)])]).run Tryd.prog w = .ok (.bool false) w := by kernel_rfl
theorem assign_placed_placed (w : World) : (ReflectliteType.relation "AssignableTo" ReflectliteType.assignableTo #[.agg #[.pointer (some ⟨18, 92, none⟩)], .iface 129 (.agg #[.pointer (some ⟨18, 92, none⟩)])]).run Tryd.prog w = .ok (.bool true) w := by kernel_rfl
theorem assign_placed_named (w : World) : (ReflectliteType.relation "AssignableTo" ReflectliteType.assignableTo #[.agg #[.pointer (some ⟨18, 92, none⟩)], .iface 129 (.agg #[.pointer (some ⟨18, 97, none⟩)])]).run Tryd.prog w = .ok (.bool false) w := by kernel_rfl
theorem assign_placed_ruled (w : World) : (ReflectliteType.relation "AssignableTo" ReflectliteType.assignableTo #[.agg #[.pointer (some ⟨18, 92, none⟩)], .iface 129 (.agg #[.pointer (some ⟨18, 102, none⟩)])]).run Tryd.prog w = .ok (.bool false) w := by kernel_rfl
theorem assign_placed_staged (w : World) : (ReflectliteType.relation "AssignableTo" ReflectliteType.assignableTo #[.agg #[.pointer (some ⟨18, 92, none⟩)], .iface 129 (.agg #[.pointer (some ⟨18, 106, none⟩)])]).run Tryd.prog w = .ok (.bool false) w := by kernel_rfl
theorem assign_named_placed (w : World) : (ReflectliteType.relation "AssignableTo" ReflectliteType.assignableTo #[.agg #[.pointer (some ⟨18, 97, none⟩)], .iface 129 (.agg #[.pointer (some ⟨18, 92, none⟩)])]).run Tryd.prog w = .ok (.bool false) w := by kernel_rfl
theorem assign_named_named (w : World) : (ReflectliteType.relation "AssignableTo" ReflectliteType.assignableTo #[.agg #[.pointer (some ⟨18, 97, none⟩)], .iface 129 (.agg #[.pointer (some ⟨18, 97, none⟩)])]).run Tryd.prog w = .ok (.bool true) w := by kernel_rfl
theorem assign_named_ruled (w : World) : (ReflectliteType.relation "AssignableTo" ReflectliteType.assignableTo #[.agg #[.pointer (some ⟨18, 97, none⟩)], .iface 129 (.agg #[.pointer (some ⟨18, 102, none⟩)])]).run Tryd.prog w = .ok (.bool false) w := by kernel_rfl
theorem assign_named_staged (w : World) : (ReflectliteType.relation "AssignableTo" ReflectliteType.assignableTo #[.agg #[.pointer (some ⟨18, 97, none⟩)], .iface 129 (.agg #[.pointer (some ⟨18, 106, none⟩)])]).run Tryd.prog w = .ok (.bool false) w := by kernel_rfl
theorem assign_ruled_placed (w : World) : (ReflectliteType.relation "AssignableTo" ReflectliteType.assignableTo #[.agg #[.pointer (some ⟨18, 102, none⟩)], .iface 129 (.agg #[.pointer (some ⟨18, 92, none⟩)])]).run Tryd.prog w = .ok (.bool false) w := by kernel_rfl
theorem assign_ruled_named (w : World) : (ReflectliteType.relation "AssignableTo" ReflectliteType.assignableTo #[.agg #[.pointer (some ⟨18, 102, none⟩)], .iface 129 (.agg #[.pointer (some ⟨18, 97, none⟩)])]).run Tryd.prog w = .ok (.bool false) w := by kernel_rfl
theorem assign_ruled_ruled (w : World) : (ReflectliteType.relation "AssignableTo" ReflectliteType.assignableTo #[.agg #[.pointer (some ⟨18, 102, none⟩)], .iface 129 (.agg #[.pointer (some ⟨18, 102, none⟩)])]).run Tryd.prog w = .ok (.bool true) w := by kernel_rfl
theorem assign_ruled_staged (w : World) : (ReflectliteType.relation "AssignableTo" ReflectliteType.assignableTo #[.agg #[.pointer (some ⟨18, 102, none⟩)], .iface 129 (.agg #[.pointer (some ⟨18, 106, none⟩)])]).run Tryd.prog w = .ok (.bool false) w := by kernel_rfl
theorem assign_staged_placed (w : World) : (ReflectliteType.relation "AssignableTo" ReflectliteType.assignableTo #[.agg #[.pointer (some ⟨18, 106, none⟩)], .iface 129 (.agg #[.pointer (some ⟨18, 92, none⟩)])]).run Tryd.prog w = .ok (.bool false) w := by kernel_rfl
theorem assign_staged_named (w : World) : (ReflectliteType.relation "AssignableTo" ReflectliteType.assignableTo #[.agg #[.pointer (some ⟨18, 106, none⟩)], .iface 129 (.agg #[.pointer (some ⟨18, 97, none⟩)])]).run Tryd.prog w = .ok (.bool false) w := by kernel_rfl
theorem assign_staged_ruled (w : World) : (ReflectliteType.relation "AssignableTo" ReflectliteType.assignableTo #[.agg #[.pointer (some ⟨18, 106, none⟩)], .iface 129 (.agg #[.pointer (some ⟨18, 102, none⟩)])]).run Tryd.prog w = .ok (.bool false) w := by kernel_rfl
theorem assign_staged_staged (w : World) : (ReflectliteType.relation "AssignableTo" ReflectliteType.assignableTo #[.agg #[.pointer (some ⟨18, 106, none⟩)], .iface 129 (.agg #[.pointer (some ⟨18, 106, none⟩)])]).run Tryd.prog w = .ok (.bool true) w := by kernel_rfl

end Go.Proofs.YtihjmeoklbmnmaaDoor
