/- errors.As at chains of errors, and a target of api.Errno: the closed facts. After the kit's worked example ToyasAs. -/
import Derived.Test.YteleaflneejipaaDoorA2
import Derived.Test.YteleaflneejipaaDoorE1
namespace Go.Proofs.YteleaflneejipaaDoor
open Go.RowKit Go.Extern.Stop Go.Stop Go.Extern Go.Proofs.YteleaflneejipaaDoorW.PrintWords
set_option linter.unusedVariables false
theorem at_typeOf (t : TypeId) (ht : t = 51 ∨ t = 45 ∨ t = 48 ∨ t = 74) (v : Value) (w : World) : (ReflectliteType.typeOf #[.iface t v]).run Tryd.prog w = .ok (.iface 106 (.agg #[.pointer (some ⟨4, t, none⟩)])) w := by
  rcases ht with rfl | rfl | rfl | rfl <;> kernel_rfl
theorem at_no51 (w : World) : (ReflectliteType.relation "AssignableTo" ReflectliteType.assignableTo #[.agg #[.pointer (some ⟨4, 51, none⟩)], .iface 106 (.agg #[.pointer (some ⟨4, 45, none⟩)])]).run Tryd.prog w = .ok (.bool false) w := by kernel_rfl
theorem at_no51e (w : World) : (ReflectliteType.relation "AssignableTo" ReflectliteType.assignableTo #[.agg #[.pointer (some ⟨4, 51, none⟩)], .iface 106 (.agg #[.pointer (some ⟨4, 48, none⟩)])]).run Tryd.prog w = .ok (.bool false) w := by kernel_rfl
theorem at_no45e (w : World) : (ReflectliteType.relation "AssignableTo" ReflectliteType.assignableTo #[.agg #[.pointer (some ⟨4, 45, none⟩)], .iface 106 (.agg #[.pointer (some ⟨4, 48, none⟩)])]).run Tryd.prog w = .ok (.bool false) w := by kernel_rfl
theorem at_no74e (w : World) : (ReflectliteType.relation "AssignableTo" ReflectliteType.assignableTo #[.agg #[.pointer (some ⟨4, 74, none⟩)], .iface 106 (.agg #[.pointer (some ⟨4, 48, none⟩)])]).run Tryd.prog w = .ok (.bool false) w := by kernel_rfl
theorem at_is48e (w : World) : (ReflectliteType.relation "AssignableTo" ReflectliteType.assignableTo #[.agg #[.pointer (some ⟨4, 48, none⟩)], .iface 106 (.agg #[.pointer (some ⟨4, 48, none⟩)])]).run Tryd.prog w = .ok (.bool true) w := by kernel_rfl
theorem at_noAsO (v : Value) (xT : TypeId) (w : World) : (Instr.typeAssert (.iface 51 v) xT 117 true).run Tryd.prog w = .ok (.tuple #[.nilIface, .bool false]) w := run_typeAssert_lacksB Tryd.underlying117 (by kernel_rfl) (by kernel_rfl) v xT w
theorem at_noAsW (v : Value) (xT : TypeId) (w : World) : (Instr.typeAssert (.iface 45 v) xT 117 true).run Tryd.prog w = .ok (.tuple #[.nilIface, .bool false]) w := run_typeAssert_lacksB Tryd.underlying117 (by kernel_rfl) (by kernel_rfl) v xT w
theorem at_noAsS (v : Value) (xT : TypeId) (w : World) : (Instr.typeAssert (.iface 74 v) xT 117 true).run Tryd.prog w = .ok (.tuple #[.nilIface, .bool false]) w := run_typeAssert_lacksB Tryd.underlying117 (by kernel_rfl) (by kernel_rfl) v xT w
theorem at_noUnwrapS (v : Value) (xT : TypeId) (w : World) : (Instr.typeAssert (.iface 74 v) xT 111 true).run Tryd.prog w = .ok (.tuple #[.nilIface, .bool false]) w := run_typeAssert_lacksB Tryd.underlying111 (by kernel_rfl) (by kernel_rfl) v xT w
theorem at_noUnwrapsS (v : Value) (xT : TypeId) (w : World) : (Instr.typeAssert (.iface 74 v) xT 112 true).run Tryd.prog w = .ok (.tuple #[.nilIface, .bool false]) w := run_typeAssert_lacksB Tryd.underlying112 (by kernel_rfl) (by kernel_rfl) v xT w
theorem at_valueOf92 (t : Addr) (w : World) : (ReflectliteValue.unpack (.iface 92 (.pointer (some t)))).run Tryd.prog w
    = .ok (.agg #[.pointer (some ⟨4, 92, none⟩), .pointer (some ⟨w.heap.size, 0, none⟩), .int .u64 150]) (w.alloc (.cells #[.pointer (some t)] 92)) := by kernel_rfl
theorem at_type92 (a : Addr) (w : World) : (ReflectliteValue.methodAny (ReflectliteValue.valueError "reflectlite.Value.Type" 0) (fun t _ _ _ => ReflectliteType.toType t) #[.agg #[.pointer (some ⟨4, 92, none⟩), .pointer (some a), .int .u64 150]]).run Tryd.prog w
    = .ok (.iface 106 (.agg #[.pointer (some ⟨4, 92, none⟩)])) w := by kernel_rfl
theorem at_kind92 (w : World) : ((ReflectliteType.abiMethod fun t => (fun a : Nat => Value.int IntKind.u8 (a : Int)) <$> Rtype.kind t) #[.pointer (some ⟨4, 92, none⟩)]).run Tryd.prog w = .ok (.int .u8 22) w := by kernel_rfl
theorem at_kind48 (w : World) : ((ReflectliteType.abiMethod fun t => (fun a : Nat => Value.int IntKind.u8 (a : Int)) <$> Rtype.kind t) #[.pointer (some ⟨4, 48, none⟩)]).run Tryd.prog w = .ok (.int .u8 2) w := by kernel_rfl
theorem at_parts92 (a : Addr) (w : World) : (ReflectliteValue.parts (.agg #[.pointer (some ⟨4, 92, none⟩), .pointer (some a), .int .u64 150])).run Tryd.prog w = .ok (some (92, a, 150)) w := by kernel_rfl
theorem at_isNil92 (a p : Addr) (W : World) (ha : W.cell? a = some (.pointer (some p))) :
    (ReflectliteValue.method (ReflectliteValue.valueError "reflectlite.Value.IsNil" 0) ReflectliteValue.isNil #[.agg #[.pointer (some ⟨4, 92, none⟩), .pointer (some a), .int .u64 150]]).run Tryd.prog W = .ok (.bool false) W := by
  rw [rlm]
  simp only [Sem.run_bind, at_parts92, Result.andThen]
  simp [ReflectliteValue.isNil, loadVar, isAgg, underlying, Tryd.underlying92, ha, Result.andThen]
theorem at_elem92 (w : World) : (ReflectliteType.method ReflectliteType.elem #[.agg #[.pointer (some ⟨4, 92, none⟩)]]).run Tryd.prog w = .ok (.iface 106 (.agg #[.pointer (some ⟨4, 48, none⟩)])) w := by kernel_rfl
theorem at_implements48 (w : World) : (ReflectliteType.relation "Implements" ReflectliteType.implements_ #[.agg #[.pointer (some ⟨4, 48, none⟩)], .iface 106 (.agg #[.pointer (some ⟨4, 42, none⟩)])]).run Tryd.prog w = .ok (.bool true) w := by kernel_rfl
theorem at_valueOf48 (n : Int) (w : World) : (ReflectliteValue.unpack (.iface 48 (.int .i64 n))).run Tryd.prog w
    = .ok (.agg #[.pointer (some ⟨4, 48, none⟩), .pointer (some ⟨w.heap.size, 0, none⟩), .int .u64 130]) (w.alloc (.cells #[.int .i64 n] 48)) := by kernel_rfl
theorem at_elemOf92 (w : World) : (Rtype.elem? 92).run Tryd.prog w = .ok (some 48) w := by kernel_rfl
theorem at_mk48 (p : Addr) (w : World) : (ReflectliteValue.mk 48 p ReflectliteValue.flagAddr).run Tryd.prog w = .ok (.agg #[.pointer (some ⟨4, 48, none⟩), .pointer (some p), .int .u64 386]) w := by kernel_rfl
theorem at_elemV92 (a p : Addr) (W : World) (ha : W.cell? a = some (.pointer (some p))) :
    (ReflectliteValue.method (ReflectliteValue.valueError "reflectlite.Value.Elem" 0) ReflectliteValue.elem #[.agg #[.pointer (some ⟨4, 92, none⟩), .pointer (some a), .int .u64 150]]).run Tryd.prog W
      = .ok (.agg #[.pointer (some ⟨4, 48, none⟩), .pointer (some p), .int .u64 386]) W := by
  rw [rlm]
  simp only [Sem.run_bind, at_parts92, Result.andThen]
  simp [ReflectliteValue.elem, loadVar, isAgg, underlying, Tryd.underlying92, ha, Result.andThen, at_elemOf92, at_mk48]
theorem at_parts48a (a : Addr) (w : World) : (ReflectliteValue.parts (.agg #[.pointer (some ⟨4, 48, none⟩), .pointer (some a), .int .u64 386])).run Tryd.prog w = .ok (some (48, a, 386)) w := by kernel_rfl
theorem at_parts48 (a : Addr) (w : World) : (ReflectliteValue.parts (.agg #[.pointer (some ⟨4, 48, none⟩), .pointer (some a), .int .u64 130])).run Tryd.prog w = .ok (some (48, a, 130)) w := by kernel_rfl
theorem at_direct48 (w : World) : (Rtype.directlyAssignable 48 48).run Tryd.prog w = .ok true w := by kernel_rfl
theorem at_set48 (ta b : Addr) (n : Int) (old : Value) (W : World) (hb : W.cell? b = some (.int .i64 n)) (ht : W.cell? ta = some old) (hf : W.frozen? ta = false) :
    (ReflectliteValue.set #[.agg #[.pointer (some ⟨4, 48, none⟩), .pointer (some ta), .int .u64 386], .agg #[.pointer (some ⟨4, 48, none⟩), .pointer (some b), .int .u64 130]]).run Tryd.prog W
      = .ok (.tuple #[]) (W.setCell ta (.int .i64 n)) := by
  rw [rls]
  simp only [Sem.run_bind, at_parts48a, at_parts48, Result.andThen]
  simp [ReflectliteValue.flagAddr, loadVar, isAgg, underlying, Tryd.underlying48, hb, Result.andThen, at_direct48, storeVar, Value.cells, storeCells, Addr.add]
  rw [run_store Tryd.prog W ta _ _ (by rfl)]
  simp [ht, hf]
end Go.Proofs.YteleaflneejipaaDoor
