/- errors.As of errors that are sentinels or wrap one, at a variable of one of the wrappers' types. No condition. Printed by gen_as.py. -/
import Derived.Test.YtndefbkcondmcaaDoorPErrIs
namespace Go.Proofs.YtndefbkcondmcaaDoor
open Go Go.RowKit Go.Extern.Stop Go.Stop Go.Extern

deriving instance DecidableEq for Wr
/-- The outermost wrapper of a kind. -/
def Er.first (k : Wr) : Er → Option Nat
  | .leaf _ => none
  | .wrap k' b _ e => if k' = k then some b else e.first k
/-- What errors.as and errors.As tell, and what they leave. -/
def AsTold (W w' : World) (k : Wr) (e : Er) (tb : Nat) (x : Ending) : Prop := ∃ w1, Gr W w1 ∧ match e.first k with
  | none => x = .returned (.bool false) ∧ w' = w1
  | some b => x = .returned (.bool true) ∧ w' = w1.setCell ⟨tb, 0, none⟩ (.pointer (some ⟨b, 0, none⟩))

theorem rlm (z : Sem Value) (f : TypeId → Addr → Nat → Nat → Sem Value) (v : Value) :
    ReflectliteValue.method z f #[v] = (do match ← ReflectliteValue.parts v with | none => z | some (t, a, fl) => f t a fl (fl % 32)) := rfl
theorem rls (v x : Value) : ReflectliteValue.set #[v, x] = (do
    let (some (dst, a, fl), some (src, b, _)) := (← ReflectliteValue.parts v, ← ReflectliteValue.parts x)
      | unsupported (.noEntry "extern/(internal/reflectlite.Value).Set.zeroValue")
    if fl / ReflectliteValue.flagAddr % 2 == 0 then unsupported (.noEntry "extern/(internal/reflectlite.Value).Set.unaddressable")
    let val ← loadVar src b
    if ← Rtype.directlyAssignable dst src then storeVar dst a val
    else if ← Rtype.implements dst src then
      if (← Rtype.kind src) == 20 then
        match val with
        | .nilIface => unsupported (.noEntry "extern/reflectlite: a nil value of one interface type handed on as a value of another")
        | _ => storeVar dst a val
      else storeVar dst a (.iface src val)
    else panicString ("reflectlite.Set: value of type " ++ (← Rtype.spelt src) ++ " is not assignable to type " ++ (← Rtype.spelt dst))
    pure (.tuple #[])) := rfl
theorem rt_kind (h : Value) (w : World) : (Go.method 265 97 (.agg #[h]) "Kind").run Tryd.prog w = .ok (55, h) w := by kernel_rfl
theorem rt_elem (h : Value) (w : World) : (Go.method 265 97 (.agg #[h]) "Elem").run Tryd.prog w = .ok (95, .agg #[h]) w := by kernel_rfl
theorem rt_impl (h : Value) (w : World) : (Go.method 265 97 (.agg #[h]) "Implements").run Tryd.prog w = .ok (96, .agg #[h]) w := by kernel_rfl
theorem rt_assign (h : Value) (w : World) : (Go.method 265 97 (.agg #[h]) "AssignableTo").run Tryd.prog w = .ok (93, .agg #[h]) w := by kernel_rfl
theorem es_noAs (v : Value) (xT : TypeId) (w : World) : (Instr.typeAssert (.iface 82 v) xT 107 true).run Tryd.prog w = .ok (.tuple #[.nilIface, .bool false]) w := run_typeAssert_lacksB Tryd.underlying107 (by kernel_rfl) (by kernel_rfl) v xT w
theorem placed_noAs (v : Value) (xT : TypeId) (w : World) : (Instr.typeAssert (.iface 54 v) xT 107 true).run Tryd.prog w = .ok (.tuple #[.nilIface, .bool false]) w := run_typeAssert_lacksB Tryd.underlying107 (by kernel_rfl) (by kernel_rfl) v xT w
theorem placed_valueOfP (t : Addr) (w : World) : (ReflectliteValue.unpack (.iface 56 (.pointer (some t)))).run Tryd.prog w = .ok (.agg #[.pointer (some ⟨21, 56, none⟩), .pointer (some ⟨w.heap.size, 0, none⟩), .int .u64 150]) (w.alloc (.cells #[.pointer (some t)] 56)) := by kernel_rfl
theorem placed_type (a : Addr) (w : World) : (ReflectliteValue.methodAny (ReflectliteValue.valueError "reflectlite.Value.Type" 0) (fun t _ _ _ => ReflectliteType.toType t) #[.agg #[.pointer (some ⟨21, 56, none⟩), .pointer (some a), .int .u64 150]]).run Tryd.prog w = .ok (.iface 97 (.agg #[.pointer (some ⟨21, 56, none⟩)])) w := by kernel_rfl
theorem placed_kindP (w : World) : ((ReflectliteType.abiMethod fun t => (fun a : Nat => Value.int IntKind.u8 (a : Int)) <$> Rtype.kind t) #[.pointer (some ⟨21, 56, none⟩)]).run Tryd.prog w = .ok (.int .u8 22) w := by kernel_rfl
theorem placed_kind (w : World) : ((ReflectliteType.abiMethod fun t => (fun a : Nat => Value.int IntKind.u8 (a : Int)) <$> Rtype.kind t) #[.pointer (some ⟨21, 54, none⟩)]).run Tryd.prog w = .ok (.int .u8 22) w := by kernel_rfl
theorem placed_partsP (a : Addr) (w : World) : (ReflectliteValue.parts (.agg #[.pointer (some ⟨21, 56, none⟩), .pointer (some a), .int .u64 150])).run Tryd.prog w = .ok (some (56, a, 150)) w := by kernel_rfl
theorem placed_isNil (a p : Addr) (W : World) (ha : W.cell? a = some (.pointer (some p))) :
    (ReflectliteValue.method (ReflectliteValue.valueError "reflectlite.Value.IsNil" 0) ReflectliteValue.isNil #[.agg #[.pointer (some ⟨21, 56, none⟩), .pointer (some a), .int .u64 150]]).run Tryd.prog W = .ok (.bool false) W := by
  rw [rlm]
  simp only [Sem.run_bind, placed_partsP, Result.andThen]
  simp [ReflectliteValue.isNil, loadVar, isAgg, underlying, Tryd.underlying56, ha, Result.andThen]
theorem placed_elemT (w : World) : (ReflectliteType.method ReflectliteType.elem #[.agg #[.pointer (some ⟨21, 56, none⟩)]]).run Tryd.prog w = .ok (.iface 97 (.agg #[.pointer (some ⟨21, 54, none⟩)])) w := by kernel_rfl
theorem placed_impl (w : World) : (ReflectliteType.relation "Implements" ReflectliteType.implements_ #[.agg #[.pointer (some ⟨21, 54, none⟩)], .iface 97 (.agg #[.pointer (some ⟨21, 28, none⟩)])]).run Tryd.prog w = .ok (.bool true) w := by kernel_rfl
theorem placed_typeOf (v : Value) (w : World) : (ReflectliteType.typeOf #[.iface 54 v]).run Tryd.prog w = .ok (.iface 97 (.agg #[.pointer (some ⟨21, 54, none⟩)])) w := by kernel_rfl
theorem placed_valueOf (e : Addr) (w : World) : (ReflectliteValue.unpack (.iface 54 (.pointer (some e)))).run Tryd.prog w = .ok (.agg #[.pointer (some ⟨21, 54, none⟩), .pointer (some ⟨w.heap.size, 0, none⟩), .int .u64 150]) (w.alloc (.cells #[.pointer (some e)] 54)) := by kernel_rfl
theorem placed_elemOf (w : World) : (Rtype.elem? 56).run Tryd.prog w = .ok (some 54) w := by kernel_rfl
theorem placed_mk (p : Addr) (w : World) : (ReflectliteValue.mk 54 p ReflectliteValue.flagAddr).run Tryd.prog w = .ok (.agg #[.pointer (some ⟨21, 54, none⟩), .pointer (some p), .int .u64 406]) w := by kernel_rfl
theorem placed_elemV (a p : Addr) (W : World) (ha : W.cell? a = some (.pointer (some p))) :
    (ReflectliteValue.method (ReflectliteValue.valueError "reflectlite.Value.Elem" 0) ReflectliteValue.elem #[.agg #[.pointer (some ⟨21, 56, none⟩), .pointer (some a), .int .u64 150]]).run Tryd.prog W = .ok (.agg #[.pointer (some ⟨21, 54, none⟩), .pointer (some p), .int .u64 406]) W := by
  rw [rlm]
  simp only [Sem.run_bind, placed_partsP, Result.andThen]
  simp [ReflectliteValue.elem, loadVar, isAgg, underlying, Tryd.underlying56, ha, Result.andThen, placed_elemOf, placed_mk]
theorem placed_partsA (a : Addr) (w : World) : (ReflectliteValue.parts (.agg #[.pointer (some ⟨21, 54, none⟩), .pointer (some a), .int .u64 406])).run Tryd.prog w = .ok (some (54, a, 406)) w := by kernel_rfl
theorem placed_parts (a : Addr) (w : World) : (ReflectliteValue.parts (.agg #[.pointer (some ⟨21, 54, none⟩), .pointer (some a), .int .u64 150])).run Tryd.prog w = .ok (some (54, a, 150)) w := by kernel_rfl
theorem placed_direct (w : World) : (Rtype.directlyAssignable 54 54).run Tryd.prog w = .ok true w := by kernel_rfl
theorem placed_set (ta b e : Addr) (old : Value) (W : World) (hb : W.cell? b = some (.pointer (some e))) (ht : W.cell? ta = some old) (hf : W.frozen? ta = false) :
    (ReflectliteValue.set #[.agg #[.pointer (some ⟨21, 54, none⟩), .pointer (some ta), .int .u64 406], .agg #[.pointer (some ⟨21, 54, none⟩), .pointer (some b), .int .u64 150]]).run Tryd.prog W = .ok (.tuple #[]) (W.setCell ta (.pointer (some e))) := by
  have hsz : ∀ w, (sizeOf 54 : Sem Nat).run Tryd.prog w = .ok 1 w := fun w => by kernel_rfl
  rw [rls]
  simp only [Sem.run_bind, placed_partsA, placed_parts, Result.andThen]
  simp [ReflectliteValue.flagAddr, loadVar, isAgg, underlying, Tryd.underlying54, hb, Result.andThen, placed_direct, storeVar, Value.cells, storeCells, Addr.add, hsz]
  rw [run_store Tryd.prog W ta _ _ (by rfl)]
  simp [ht, hf]
theorem placed_assignE (w : World) : (ReflectliteType.relation "AssignableTo" ReflectliteType.assignableTo #[.agg #[.pointer (some ⟨21, 82, none⟩)], .iface 97 (.agg #[.pointer (some ⟨21, 54, none⟩)])]).run Tryd.prog w = .ok (.bool false) w := by kernel_rfl
theorem named_noAs (v : Value) (xT : TypeId) (w : World) : (Instr.typeAssert (.iface 59 v) xT 107 true).run Tryd.prog w = .ok (.tuple #[.nilIface, .bool false]) w := run_typeAssert_lacksB Tryd.underlying107 (by kernel_rfl) (by kernel_rfl) v xT w
theorem named_valueOfP (t : Addr) (w : World) : (ReflectliteValue.unpack (.iface 60 (.pointer (some t)))).run Tryd.prog w = .ok (.agg #[.pointer (some ⟨21, 60, none⟩), .pointer (some ⟨w.heap.size, 0, none⟩), .int .u64 150]) (w.alloc (.cells #[.pointer (some t)] 60)) := by kernel_rfl
theorem named_type (a : Addr) (w : World) : (ReflectliteValue.methodAny (ReflectliteValue.valueError "reflectlite.Value.Type" 0) (fun t _ _ _ => ReflectliteType.toType t) #[.agg #[.pointer (some ⟨21, 60, none⟩), .pointer (some a), .int .u64 150]]).run Tryd.prog w = .ok (.iface 97 (.agg #[.pointer (some ⟨21, 60, none⟩)])) w := by kernel_rfl
theorem named_kindP (w : World) : ((ReflectliteType.abiMethod fun t => (fun a : Nat => Value.int IntKind.u8 (a : Int)) <$> Rtype.kind t) #[.pointer (some ⟨21, 60, none⟩)]).run Tryd.prog w = .ok (.int .u8 22) w := by kernel_rfl
theorem named_kind (w : World) : ((ReflectliteType.abiMethod fun t => (fun a : Nat => Value.int IntKind.u8 (a : Int)) <$> Rtype.kind t) #[.pointer (some ⟨21, 59, none⟩)]).run Tryd.prog w = .ok (.int .u8 22) w := by kernel_rfl
theorem named_partsP (a : Addr) (w : World) : (ReflectliteValue.parts (.agg #[.pointer (some ⟨21, 60, none⟩), .pointer (some a), .int .u64 150])).run Tryd.prog w = .ok (some (60, a, 150)) w := by kernel_rfl
theorem named_isNil (a p : Addr) (W : World) (ha : W.cell? a = some (.pointer (some p))) :
    (ReflectliteValue.method (ReflectliteValue.valueError "reflectlite.Value.IsNil" 0) ReflectliteValue.isNil #[.agg #[.pointer (some ⟨21, 60, none⟩), .pointer (some a), .int .u64 150]]).run Tryd.prog W = .ok (.bool false) W := by
  rw [rlm]
  simp only [Sem.run_bind, named_partsP, Result.andThen]
  simp [ReflectliteValue.isNil, loadVar, isAgg, underlying, Tryd.underlying60, ha, Result.andThen]
theorem named_elemT (w : World) : (ReflectliteType.method ReflectliteType.elem #[.agg #[.pointer (some ⟨21, 60, none⟩)]]).run Tryd.prog w = .ok (.iface 97 (.agg #[.pointer (some ⟨21, 59, none⟩)])) w := by kernel_rfl
theorem named_impl (w : World) : (ReflectliteType.relation "Implements" ReflectliteType.implements_ #[.agg #[.pointer (some ⟨21, 59, none⟩)], .iface 97 (.agg #[.pointer (some ⟨21, 28, none⟩)])]).run Tryd.prog w = .ok (.bool true) w := by kernel_rfl
theorem named_typeOf (v : Value) (w : World) : (ReflectliteType.typeOf #[.iface 59 v]).run Tryd.prog w = .ok (.iface 97 (.agg #[.pointer (some ⟨21, 59, none⟩)])) w := by kernel_rfl
theorem named_valueOf (e : Addr) (w : World) : (ReflectliteValue.unpack (.iface 59 (.pointer (some e)))).run Tryd.prog w = .ok (.agg #[.pointer (some ⟨21, 59, none⟩), .pointer (some ⟨w.heap.size, 0, none⟩), .int .u64 150]) (w.alloc (.cells #[.pointer (some e)] 59)) := by kernel_rfl
theorem named_elemOf (w : World) : (Rtype.elem? 60).run Tryd.prog w = .ok (some 59) w := by kernel_rfl
theorem named_mk (p : Addr) (w : World) : (ReflectliteValue.mk 59 p ReflectliteValue.flagAddr).run Tryd.prog w = .ok (.agg #[.pointer (some ⟨21, 59, none⟩), .pointer (some p), .int .u64 406]) w := by kernel_rfl
theorem named_elemV (a p : Addr) (W : World) (ha : W.cell? a = some (.pointer (some p))) :
    (ReflectliteValue.method (ReflectliteValue.valueError "reflectlite.Value.Elem" 0) ReflectliteValue.elem #[.agg #[.pointer (some ⟨21, 60, none⟩), .pointer (some a), .int .u64 150]]).run Tryd.prog W = .ok (.agg #[.pointer (some ⟨21, 59, none⟩), .pointer (some p), .int .u64 406]) W := by
  rw [rlm]
  simp only [Sem.run_bind, named_partsP, Result.andThen]
  simp [ReflectliteValue.elem, loadVar, isAgg, underlying, Tryd.underlying60, ha, Result.andThen, named_elemOf, named_mk]
theorem named_partsA (a : Addr) (w : World) : (ReflectliteValue.parts (.agg #[.pointer (some ⟨21, 59, none⟩), .pointer (some a), .int .u64 406])).run Tryd.prog w = .ok (some (59, a, 406)) w := by kernel_rfl
theorem named_parts (a : Addr) (w : World) : (ReflectliteValue.parts (.agg #[.pointer (some ⟨21, 59, none⟩), .pointer (some a), .int .u64 150])).run Tryd.prog w = .ok (some (59, a, 150)) w := by kernel_rfl
theorem named_direct (w : World) : (Rtype.directlyAssignable 59 59).run Tryd.prog w = .ok true w := by kernel_rfl
theorem named_set (ta b e : Addr) (old : Value) (W : World) (hb : W.cell? b = some (.pointer (some e))) (ht : W.cell? ta = some old) (hf : W.frozen? ta = false) :
    (ReflectliteValue.set #[.agg #[.pointer (some ⟨21, 59, none⟩), .pointer (some ta), .int .u64 406], .agg #[.pointer (some ⟨21, 59, none⟩), .pointer (some b), .int .u64 150]]).run Tryd.prog W = .ok (.tuple #[]) (W.setCell ta (.pointer (some e))) := by
  have hsz : ∀ w, (sizeOf 59 : Sem Nat).run Tryd.prog w = .ok 1 w := fun w => by kernel_rfl
  rw [rls]
  simp only [Sem.run_bind, named_partsA, named_parts, Result.andThen]
  simp [ReflectliteValue.flagAddr, loadVar, isAgg, underlying, Tryd.underlying59, hb, Result.andThen, named_direct, storeVar, Value.cells, storeCells, Addr.add, hsz]
  rw [run_store Tryd.prog W ta _ _ (by rfl)]
  simp [ht, hf]
theorem named_assignE (w : World) : (ReflectliteType.relation "AssignableTo" ReflectliteType.assignableTo #[.agg #[.pointer (some ⟨21, 82, none⟩)], .iface 97 (.agg #[.pointer (some ⟨21, 59, none⟩)])]).run Tryd.prog w = .ok (.bool false) w := by kernel_rfl
theorem ruled_noAs (v : Value) (xT : TypeId) (w : World) : (Instr.typeAssert (.iface 64 v) xT 107 true).run Tryd.prog w = .ok (.tuple #[.nilIface, .bool false]) w := run_typeAssert_lacksB Tryd.underlying107 (by kernel_rfl) (by kernel_rfl) v xT w
theorem ruled_valueOfP (t : Addr) (w : World) : (ReflectliteValue.unpack (.iface 65 (.pointer (some t)))).run Tryd.prog w = .ok (.agg #[.pointer (some ⟨21, 65, none⟩), .pointer (some ⟨w.heap.size, 0, none⟩), .int .u64 150]) (w.alloc (.cells #[.pointer (some t)] 65)) := by kernel_rfl
theorem ruled_type (a : Addr) (w : World) : (ReflectliteValue.methodAny (ReflectliteValue.valueError "reflectlite.Value.Type" 0) (fun t _ _ _ => ReflectliteType.toType t) #[.agg #[.pointer (some ⟨21, 65, none⟩), .pointer (some a), .int .u64 150]]).run Tryd.prog w = .ok (.iface 97 (.agg #[.pointer (some ⟨21, 65, none⟩)])) w := by kernel_rfl
theorem ruled_kindP (w : World) : ((ReflectliteType.abiMethod fun t => (fun a : Nat => Value.int IntKind.u8 (a : Int)) <$> Rtype.kind t) #[.pointer (some ⟨21, 65, none⟩)]).run Tryd.prog w = .ok (.int .u8 22) w := by kernel_rfl
theorem ruled_kind (w : World) : ((ReflectliteType.abiMethod fun t => (fun a : Nat => Value.int IntKind.u8 (a : Int)) <$> Rtype.kind t) #[.pointer (some ⟨21, 64, none⟩)]).run Tryd.prog w = .ok (.int .u8 22) w := by kernel_rfl
theorem ruled_partsP (a : Addr) (w : World) : (ReflectliteValue.parts (.agg #[.pointer (some ⟨21, 65, none⟩), .pointer (some a), .int .u64 150])).run Tryd.prog w = .ok (some (65, a, 150)) w := by kernel_rfl
theorem ruled_isNil (a p : Addr) (W : World) (ha : W.cell? a = some (.pointer (some p))) :
    (ReflectliteValue.method (ReflectliteValue.valueError "reflectlite.Value.IsNil" 0) ReflectliteValue.isNil #[.agg #[.pointer (some ⟨21, 65, none⟩), .pointer (some a), .int .u64 150]]).run Tryd.prog W = .ok (.bool false) W := by
  rw [rlm]
  simp only [Sem.run_bind, ruled_partsP, Result.andThen]
  simp [ReflectliteValue.isNil, loadVar, isAgg, underlying, Tryd.underlying65, ha, Result.andThen]
theorem ruled_elemT (w : World) : (ReflectliteType.method ReflectliteType.elem #[.agg #[.pointer (some ⟨21, 65, none⟩)]]).run Tryd.prog w = .ok (.iface 97 (.agg #[.pointer (some ⟨21, 64, none⟩)])) w := by kernel_rfl
theorem ruled_impl (w : World) : (ReflectliteType.relation "Implements" ReflectliteType.implements_ #[.agg #[.pointer (some ⟨21, 64, none⟩)], .iface 97 (.agg #[.pointer (some ⟨21, 28, none⟩)])]).run Tryd.prog w = .ok (.bool true) w := by kernel_rfl
theorem ruled_typeOf (v : Value) (w : World) : (ReflectliteType.typeOf #[.iface 64 v]).run Tryd.prog w = .ok (.iface 97 (.agg #[.pointer (some ⟨21, 64, none⟩)])) w := by kernel_rfl
theorem ruled_valueOf (e : Addr) (w : World) : (ReflectliteValue.unpack (.iface 64 (.pointer (some e)))).run Tryd.prog w = .ok (.agg #[.pointer (some ⟨21, 64, none⟩), .pointer (some ⟨w.heap.size, 0, none⟩), .int .u64 150]) (w.alloc (.cells #[.pointer (some e)] 64)) := by kernel_rfl
theorem ruled_elemOf (w : World) : (Rtype.elem? 65).run Tryd.prog w = .ok (some 64) w := by kernel_rfl
theorem ruled_mk (p : Addr) (w : World) : (ReflectliteValue.mk 64 p ReflectliteValue.flagAddr).run Tryd.prog w = .ok (.agg #[.pointer (some ⟨21, 64, none⟩), .pointer (some p), .int .u64 406]) w := by kernel_rfl
theorem ruled_elemV (a p : Addr) (W : World) (ha : W.cell? a = some (.pointer (some p))) :
    (ReflectliteValue.method (ReflectliteValue.valueError "reflectlite.Value.Elem" 0) ReflectliteValue.elem #[.agg #[.pointer (some ⟨21, 65, none⟩), .pointer (some a), .int .u64 150]]).run Tryd.prog W = .ok (.agg #[.pointer (some ⟨21, 64, none⟩), .pointer (some p), .int .u64 406]) W := by
  rw [rlm]
  simp only [Sem.run_bind, ruled_partsP, Result.andThen]
  simp [ReflectliteValue.elem, loadVar, isAgg, underlying, Tryd.underlying65, ha, Result.andThen, ruled_elemOf, ruled_mk]
theorem ruled_partsA (a : Addr) (w : World) : (ReflectliteValue.parts (.agg #[.pointer (some ⟨21, 64, none⟩), .pointer (some a), .int .u64 406])).run Tryd.prog w = .ok (some (64, a, 406)) w := by kernel_rfl
theorem ruled_parts (a : Addr) (w : World) : (ReflectliteValue.parts (.agg #[.pointer (some ⟨21, 64, none⟩), .pointer (some a), .int .u64 150])).run Tryd.prog w = .ok (some (64, a, 150)) w := by kernel_rfl
theorem ruled_direct (w : World) : (Rtype.directlyAssignable 64 64).run Tryd.prog w = .ok true w := by kernel_rfl
theorem ruled_set (ta b e : Addr) (old : Value) (W : World) (hb : W.cell? b = some (.pointer (some e))) (ht : W.cell? ta = some old) (hf : W.frozen? ta = false) :
    (ReflectliteValue.set #[.agg #[.pointer (some ⟨21, 64, none⟩), .pointer (some ta), .int .u64 406], .agg #[.pointer (some ⟨21, 64, none⟩), .pointer (some b), .int .u64 150]]).run Tryd.prog W = .ok (.tuple #[]) (W.setCell ta (.pointer (some e))) := by
  have hsz : ∀ w, (sizeOf 64 : Sem Nat).run Tryd.prog w = .ok 1 w := fun w => by kernel_rfl
  rw [rls]
  simp only [Sem.run_bind, ruled_partsA, ruled_parts, Result.andThen]
  simp [ReflectliteValue.flagAddr, loadVar, isAgg, underlying, Tryd.underlying64, hb, Result.andThen, ruled_direct, storeVar, Value.cells, storeCells, Addr.add, hsz]
  rw [run_store Tryd.prog W ta _ _ (by rfl)]
  simp [ht, hf]
theorem ruled_assignE (w : World) : (ReflectliteType.relation "AssignableTo" ReflectliteType.assignableTo #[.agg #[.pointer (some ⟨21, 82, none⟩)], .iface 97 (.agg #[.pointer (some ⟨21, 64, none⟩)])]).run Tryd.prog w = .ok (.bool false) w := by kernel_rfl
theorem staged_noAs (v : Value) (xT : TypeId) (w : World) : (Instr.typeAssert (.iface 68 v) xT 107 true).run Tryd.prog w = .ok (.tuple #[.nilIface, .bool false]) w := run_typeAssert_lacksB Tryd.underlying107 (by kernel_rfl) (by kernel_rfl) v xT w
theorem staged_valueOfP (t : Addr) (w : World) : (ReflectliteValue.unpack (.iface 69 (.pointer (some t)))).run Tryd.prog w = .ok (.agg #[.pointer (some ⟨21, 69, none⟩), .pointer (some ⟨w.heap.size, 0, none⟩), .int .u64 150]) (w.alloc (.cells #[.pointer (some t)] 69)) := by kernel_rfl
theorem staged_type (a : Addr) (w : World) : (ReflectliteValue.methodAny (ReflectliteValue.valueError "reflectlite.Value.Type" 0) (fun t _ _ _ => ReflectliteType.toType t) #[.agg #[.pointer (some ⟨21, 69, none⟩), .pointer (some a), .int .u64 150]]).run Tryd.prog w = .ok (.iface 97 (.agg #[.pointer (some ⟨21, 69, none⟩)])) w := by kernel_rfl
theorem staged_kindP (w : World) : ((ReflectliteType.abiMethod fun t => (fun a : Nat => Value.int IntKind.u8 (a : Int)) <$> Rtype.kind t) #[.pointer (some ⟨21, 69, none⟩)]).run Tryd.prog w = .ok (.int .u8 22) w := by kernel_rfl
theorem staged_kind (w : World) : ((ReflectliteType.abiMethod fun t => (fun a : Nat => Value.int IntKind.u8 (a : Int)) <$> Rtype.kind t) #[.pointer (some ⟨21, 68, none⟩)]).run Tryd.prog w = .ok (.int .u8 22) w := by kernel_rfl
theorem staged_partsP (a : Addr) (w : World) : (ReflectliteValue.parts (.agg #[.pointer (some ⟨21, 69, none⟩), .pointer (some a), .int .u64 150])).run Tryd.prog w = .ok (some (69, a, 150)) w := by kernel_rfl
theorem staged_isNil (a p : Addr) (W : World) (ha : W.cell? a = some (.pointer (some p))) :
    (ReflectliteValue.method (ReflectliteValue.valueError "reflectlite.Value.IsNil" 0) ReflectliteValue.isNil #[.agg #[.pointer (some ⟨21, 69, none⟩), .pointer (some a), .int .u64 150]]).run Tryd.prog W = .ok (.bool false) W := by
  rw [rlm]
  simp only [Sem.run_bind, staged_partsP, Result.andThen]
  simp [ReflectliteValue.isNil, loadVar, isAgg, underlying, Tryd.underlying69, ha, Result.andThen]
theorem staged_elemT (w : World) : (ReflectliteType.method ReflectliteType.elem #[.agg #[.pointer (some ⟨21, 69, none⟩)]]).run Tryd.prog w = .ok (.iface 97 (.agg #[.pointer (some ⟨21, 68, none⟩)])) w := by kernel_rfl
theorem staged_impl (w : World) : (ReflectliteType.relation "Implements" ReflectliteType.implements_ #[.agg #[.pointer (some ⟨21, 68, none⟩)], .iface 97 (.agg #[.pointer (some ⟨21, 28, none⟩)])]).run Tryd.prog w = .ok (.bool true) w := by kernel_rfl
theorem staged_typeOf (v : Value) (w : World) : (ReflectliteType.typeOf #[.iface 68 v]).run Tryd.prog w = .ok (.iface 97 (.agg #[.pointer (some ⟨21, 68, none⟩)])) w := by kernel_rfl
theorem staged_valueOf (e : Addr) (w : World) : (ReflectliteValue.unpack (.iface 68 (.pointer (some e)))).run Tryd.prog w = .ok (.agg #[.pointer (some ⟨21, 68, none⟩), .pointer (some ⟨w.heap.size, 0, none⟩), .int .u64 150]) (w.alloc (.cells #[.pointer (some e)] 68)) := by kernel_rfl
theorem staged_elemOf (w : World) : (Rtype.elem? 69).run Tryd.prog w = .ok (some 68) w := by kernel_rfl
theorem staged_mk (p : Addr) (w : World) : (ReflectliteValue.mk 68 p ReflectliteValue.flagAddr).run Tryd.prog w = .ok (.agg #[.pointer (some ⟨21, 68, none⟩), .pointer (some p), .int .u64 406]) w := by kernel_rfl
theorem staged_elemV (a p : Addr) (W : World) (ha : W.cell? a = some (.pointer (some p))) :
    (ReflectliteValue.method (ReflectliteValue.valueError "reflectlite.Value.Elem" 0) ReflectliteValue.elem #[.agg #[.pointer (some ⟨21, 69, none⟩), .pointer (some a), .int .u64 150]]).run Tryd.prog W = .ok (.agg #[.pointer (some ⟨21, 68, none⟩), .pointer (some p), .int .u64 406]) W := by
  rw [rlm]
  simp only [Sem.run_bind, staged_partsP, Result.andThen]
  simp [ReflectliteValue.elem, loadVar, isAgg, underlying, Tryd.underlying69, ha, Result.andThen, staged_elemOf, staged_mk]
theorem staged_partsA (a : Addr) (w : World) : (ReflectliteValue.parts (.agg #[.pointer (some ⟨21, 68, none⟩), .pointer (some a), .int .u64 406])).run Tryd.prog w = .ok (some (68, a, 406)) w := by kernel_rfl
theorem staged_parts (a : Addr) (w : World) : (ReflectliteValue.parts (.agg #[.pointer (some ⟨21, 68, none⟩), .pointer (some a), .int .u64 150])).run Tryd.prog w = .ok (some (68, a, 150)) w := by kernel_rfl
theorem staged_direct (w : World) : (Rtype.directlyAssignable 68 68).run Tryd.prog w = .ok true w := by kernel_rfl
theorem staged_set (ta b e : Addr) (old : Value) (W : World) (hb : W.cell? b = some (.pointer (some e))) (ht : W.cell? ta = some old) (hf : W.frozen? ta = false) :
    (ReflectliteValue.set #[.agg #[.pointer (some ⟨21, 68, none⟩), .pointer (some ta), .int .u64 406], .agg #[.pointer (some ⟨21, 68, none⟩), .pointer (some b), .int .u64 150]]).run Tryd.prog W = .ok (.tuple #[]) (W.setCell ta (.pointer (some e))) := by
  have hsz : ∀ w, (sizeOf 68 : Sem Nat).run Tryd.prog w = .ok 1 w := fun w => by kernel_rfl
  rw [rls]
  simp only [Sem.run_bind, staged_partsA, staged_parts, Result.andThen]
  simp [ReflectliteValue.flagAddr, loadVar, isAgg, underlying, Tryd.underlying68, hb, Result.andThen, staged_direct, storeVar, Value.cells, storeCells, Addr.add, hsz]
  rw [run_store Tryd.prog W ta _ _ (by rfl)]
  simp [ht, hf]
theorem staged_assignE (w : World) : (ReflectliteType.relation "AssignableTo" ReflectliteType.assignableTo #[.agg #[.pointer (some ⟨21, 82, none⟩)], .iface 97 (.agg #[.pointer (some ⟨21, 68, none⟩)])]).run Tryd.prog w = .ok (.bool false) w := by kernel_rfl
theorem assign_placed_placed (w : World) : (ReflectliteType.relation "AssignableTo" ReflectliteType.assignableTo #[.agg #[.pointer (some ⟨21, 54, none⟩)], .iface 97 (.agg #[.pointer (some ⟨21, 54, none⟩)])]).run Tryd.prog w = .ok (.bool true) w := by kernel_rfl
theorem assign_placed_named (w : World) : (ReflectliteType.relation "AssignableTo" ReflectliteType.assignableTo #[.agg #[.pointer (some ⟨21, 54, none⟩)], .iface 97 (.agg #[.pointer (some ⟨21, 59, none⟩)])]).run Tryd.prog w = .ok (.bool false) w := by kernel_rfl
theorem assign_placed_ruled (w : World) : (ReflectliteType.relation "AssignableTo" ReflectliteType.assignableTo #[.agg #[.pointer (some ⟨21, 54, none⟩)], .iface 97 (.agg #[.pointer (some ⟨21, 64, none⟩)])]).run Tryd.prog w = .ok (.bool false) w := by kernel_rfl
theorem assign_placed_staged (w : World) : (ReflectliteType.relation "AssignableTo" ReflectliteType.assignableTo #[.agg #[.pointer (some ⟨21, 54, none⟩)], .iface 97 (.agg #[.pointer (some ⟨21, 68, none⟩)])]).run Tryd.prog w = .ok (.bool false) w := by kernel_rfl
theorem assign_named_placed (w : World) : (ReflectliteType.relation "AssignableTo" ReflectliteType.assignableTo #[.agg #[.pointer (some ⟨21, 59, none⟩)], .iface 97 (.agg #[.pointer (some ⟨21, 54, none⟩)])]).run Tryd.prog w = .ok (.bool false) w := by kernel_rfl
theorem assign_named_named (w : World) : (ReflectliteType.relation "AssignableTo" ReflectliteType.assignableTo #[.agg #[.pointer (some ⟨21, 59, none⟩)], .iface 97 (.agg #[.pointer (some ⟨21, 59, none⟩)])]).run Tryd.prog w = .ok (.bool true) w := by kernel_rfl
theorem assign_named_ruled (w : World) : (ReflectliteType.relation "AssignableTo" ReflectliteType.assignableTo #[.agg #[.pointer (some ⟨21, 59, none⟩)], .iface 97 (.agg #[.pointer (some ⟨21, 64, none⟩)])]).run Tryd.prog w = .ok (.bool false) w := by kernel_rfl
theorem assign_named_staged (w : World) : (ReflectliteType.relation "AssignableTo" ReflectliteType.assignableTo #[.agg #[.pointer (some ⟨21, 59, none⟩)], .iface 97 (.agg #[.pointer (some ⟨21, 68, none⟩)])]).run Tryd.prog w = .ok (.bool false) w := by kernel_rfl
theorem assign_ruled_placed (w : World) : (ReflectliteType.relation "AssignableTo" ReflectliteType.assignableTo #[.agg #[.pointer (some ⟨21, 64, none⟩)], .iface 97 (.agg #[.pointer (some ⟨21, 54, none⟩)])]).run Tryd.prog w = .ok (.bool false) w := by kernel_rfl
theorem assign_ruled_named (w : World) : (ReflectliteType.relation "AssignableTo" ReflectliteType.assignableTo #[.agg #[.pointer (some ⟨21, 64, none⟩)], .iface 97 (.agg #[.pointer (some ⟨21, 59, none⟩)])]).run Tryd.prog w = .ok (.bool false) w := by kernel_rfl
theorem assign_ruled_ruled (w : World) : (ReflectliteType.relation "AssignableTo" ReflectliteType.assignableTo #[.agg #[.pointer (some ⟨21, 64, none⟩)], .iface 97 (.agg #[.pointer (some ⟨21, 64, none⟩)])]).run Tryd.prog w = .ok (.bool true) w := by kernel_rfl
theorem assign_ruled_staged (w : World) : (ReflectliteType.relation "AssignableTo" ReflectliteType.assignableTo #[.agg #[.pointer (some ⟨21, 64, none⟩)], .iface 97 (.agg #[.pointer (some ⟨21, 68, none⟩)])]).run Tryd.prog w = .ok (.bool false) w := by kernel_rfl
theorem assign_staged_placed (w : World) : (ReflectliteType.relation "AssignableTo" ReflectliteType.assignableTo #[.agg #[.pointer (some ⟨21, 68, none⟩)], .iface 97 (.agg #[.pointer (some ⟨21, 54, none⟩)])]).run Tryd.prog w = .ok (.bool false) w := by kernel_rfl
theorem assign_staged_named (w : World) : (ReflectliteType.relation "AssignableTo" ReflectliteType.assignableTo #[.agg #[.pointer (some ⟨21, 68, none⟩)], .iface 97 (.agg #[.pointer (some ⟨21, 59, none⟩)])]).run Tryd.prog w = .ok (.bool false) w := by kernel_rfl
theorem assign_staged_ruled (w : World) : (ReflectliteType.relation "AssignableTo" ReflectliteType.assignableTo #[.agg #[.pointer (some ⟨21, 68, none⟩)], .iface 97 (.agg #[.pointer (some ⟨21, 64, none⟩)])]).run Tryd.prog w = .ok (.bool false) w := by kernel_rfl
theorem assign_staged_staged (w : World) : (ReflectliteType.relation "AssignableTo" ReflectliteType.assignableTo #[.agg #[.pointer (some ⟨21, 68, none⟩)], .iface 97 (.agg #[.pointer (some ⟨21, 68, none⟩)])]).run Tryd.prog w = .ok (.bool true) w := by kernel_rfl

end Go.Proofs.YtndefbkcondmcaaDoor
