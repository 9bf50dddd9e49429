/- errors.Is by a contract, at what the law hands it: a *query.Wrong, and api.ErrQuery. After the kit's worked example SentryIs. -/
import Derived.Test.YteleaflneejipaaDoorProg
import Derived.WalkKit
import Derived.LaidEql
import Derived.Lib.IfaceEq
import Derived.Stop.Asserts
import Derived.RowKitTokens
namespace Go.Proofs.YteleaflneejipaaDoor
open Go.RowKit Go.Extern.Stop Go.Stop Go.Extern

theorem is_typeOf (v : Value) (w : World) : (Extern.ReflectliteType.typeOf #[.iface 48 v]).run Tryd.prog w = .ok (.iface 106 (.agg #[.pointer (some ⟨4, 48, none⟩)])) w := by kernel_rfl
theorem is_comparable (w : World) : ((Extern.ReflectliteType.method fun t => do Extern.Rtype.noPackHeld "Comparable" t; (fun a => Value.bool a.comparable) <$> typeInfo t) #[.agg #[.pointer (some ⟨4, 48, none⟩)]]).run Tryd.prog w = .ok (.bool true) w := by kernel_rfl
theorem is_methodComparable (v : Value) (w : World) : (Go.method 272 106 v "Comparable").run Tryd.prog w = .ok (107, v) w := by kernel_rfl
theorem is_noIsW (v : Value) (xT : TypeId) (w : World) : (Instr.typeAssert (.iface 45 v) xT 108 true).run Tryd.prog w = .ok (.tuple #[.nilIface, .bool false]) w := run_typeAssert_lacksB Tryd.underlying108 (by kernel_rfl) (by kernel_rfl) v xT w
theorem is_hasUnwrapW (v : Value) (xT : TypeId) (w : World) : (Instr.typeAssert (.iface 45 v) xT 111 true).run Tryd.prog w = .ok (.tuple #[.iface 45 v, .bool true]) w := run_typeAssert_hasB Tryd.underlying111 (by kernel_rfl) v xT w
theorem is_methodUnwrap (v : Value) (w : World) : (Go.method 272 45 v "Unwrap").run Tryd.prog w = .ok (16, v) w := by kernel_rfl
theorem is_comp48 : (Tryd.prog.info? 48).map (·.comparable) = some true := by kernel_rfl

set_option maxRecDepth 100000 in
/-- errors.Is(e, api.ErrQuery), e a *query.Wrong: one Unwrap, then equal. -/
theorem is_wrong (a : Addr) (w : World) :
    Calls Tryd.prog 14 #[.iface 45 (.pointer (some a)), .iface 48 (.int .i64 80)] w fun e w' => e = .returned (.bool true) ∧ w' = w := by
  have h8 := @run_callFunc_extern Tryd.prog 40 _ Extern.ReflectliteType.typeOf Tryd.func40 (by kernel_rfl) (by kernel_rfl) (by kernel_rfl) (by kernel_rfl)
  have h32 := @run_callFunc_extern Tryd.prog 107 _ (Extern.ReflectliteType.method fun t => do Extern.Rtype.noPackHeld "Comparable" t; pure (.bool (← typeInfo t).comparable)) Tryd.func107 (by kernel_rfl) (by kernel_rfl) (by kernel_rfl) (by kernel_rfl)
  have tT := is_typeOf
  have cT := is_comparable
  have mR := is_methodComparable
  have nW := is_noIsW
  have uW := is_hasUnwrapW
  have mU := is_methodUnwrap
  have hty := run_eql_iface_types (P := Tryd.prog) 45 48 (.pointer (some a)) (.int .i64 80) Tryd.underlying42 (by decide) w
  have heq := Go.Lib.run_eql_iface_int (P := Tryd.prog) w (t := 42) (tx := 48) (k := .i64) 80 80 Tryd.underlying42 is_comp48 Tryd.underlying48
  go_enter Tryd.func14, Tryd.ntmps14
  go_wp2
  refine wp_loop_rounds 2 ?_
  rw [rounds_succ]
  go_wp2
  rw [rounds_succ]
  go_wp2
  go_ret
  exact ⟨rfl, rfl⟩
end Go.Proofs.YteleaflneejipaaDoor
