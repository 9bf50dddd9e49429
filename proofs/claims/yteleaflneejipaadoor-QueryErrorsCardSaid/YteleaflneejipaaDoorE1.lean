/- errors.Is at chains of errors that wrap each other, however deep: by a contract. -/
import Derived.Test.YteleaflneejipaaDoorA1
import Derived.Test.YteleaflneejipaaDoorWWords
namespace Go.Proofs.YteleaflneejipaaDoor
open Go.RowKit Go.Extern.Stop Go.Stop Go.Extern Go.Proofs.YteleaflneejipaaDoorW.PrintWords
set_option linter.unusedVariables false

/-- An error that n others wrap. -/
def wraps : Nat → Value → Value
  | 0, v => v
  | n + 1, v => .iface 51 (.agg #[wraps n v])
theorem is_noIsO (v : Value) (xT : TypeId) (w : World) : (Instr.typeAssert (.iface 51 v) xT 108 true).run Tryd.prog w = .ok (.tuple #[.nilIface, .bool false]) w := run_typeAssert_lacksB Tryd.underlying108 (by kernel_rfl) (by kernel_rfl) v xT w
theorem is_hasUnwrapO (v : Value) (xT : TypeId) (w : World) : (Instr.typeAssert (.iface 51 v) xT 111 true).run Tryd.prog w = .ok (.tuple #[.iface 51 v, .bool true]) w := run_typeAssert_hasB Tryd.underlying111 (by kernel_rfl) v xT w
theorem is_methodUnwrapO (v : Value) (w : World) : (Go.method 272 51 v "Unwrap").run Tryd.prog w = .ok (100, v) w := by kernel_rfl
theorem is_noIsE (v : Value) (xT : TypeId) (w : World) : (Instr.typeAssert (.iface 48 v) xT 108 true).run Tryd.prog w = .ok (.tuple #[.nilIface, .bool false]) w := run_typeAssert_lacksB Tryd.underlying108 (by kernel_rfl) (by kernel_rfl) v xT w
theorem is_noUnwrapE (v : Value) (xT : TypeId) (w : World) : (Instr.typeAssert (.iface 48 v) xT 111 true).run Tryd.prog w = .ok (.tuple #[.nilIface, .bool false]) w := run_typeAssert_lacksB Tryd.underlying111 (by kernel_rfl) (by kernel_rfl) v xT w
theorem is_noUnwrapsE (v : Value) (xT : TypeId) (w : World) : (Instr.typeAssert (.iface 48 v) xT 112 true).run Tryd.prog w = .ok (.tuple #[.nilIface, .bool false]) w := run_typeAssert_lacksB Tryd.underlying112 (by kernel_rfl) (by kernel_rfl) v xT w
theorem is_eq (a b : Int) (w : World) : (binOp .eql 42 (.iface 48 (.int .i64 a)) (.iface 48 (.int .i64 b))).run Tryd.prog w = .ok (.bool (a == b)) w := Go.Lib.run_eql_iface_int w a b Tryd.underlying42 is_comp48 Tryd.underlying48
theorem is_ne45 (v x : Value) (w : World) : (binOp .eql 42 (.iface 45 v) (.iface 48 x)).run Tryd.prog w = .ok (.bool false) w := run_eql_iface_types 45 48 v x Tryd.underlying42 (by decide) w
theorem is_ne51 (v x : Value) (w : World) : (binOp .eql 42 (.iface 51 v) (.iface 48 x)).run Tryd.prog w = .ok (.bool false) w := run_eql_iface_types 51 48 v x Tryd.underlying42 (by decide) w
theorem wraps_iface (n : Nat) (u : TypeId) (x : Value) : ∃ u' x', wraps n (.iface u x) = .iface u' x' := by
  cases n with
  | zero => exact ⟨_, _, rfl⟩
  | succ n => exact ⟨_, _, rfl⟩
theorem unwrapO (v : Value) (u : TypeId) (x : Value) (hv : v = .iface u x) (w : World) : Calls Tryd.prog 100 #[.agg #[v]] w fun e w' => e = .returned v ∧ Below w.heap.size w w' := by
  subst hv
  go_enter Tryd.func100, Tryd.ntmps100
  go_wp2
  go_ret
  exact ⟨rfl, below_alloc (Below.refl _ _) _⟩
set_option maxHeartbeats 4000000 in
set_option maxRecDepth 100000 in
theorem is_chain41 (a : Addr) (t : Int) (b : Bool) (ht : ((80 : Int) == t) = b) (n : Nat) (w : World) :
    Calls Tryd.prog 41 #[wraps n (.iface 45 (.pointer (some a))), .iface 48 (.int .i64 t), .bool true] w fun e w' => e = .returned (.bool b) ∧ Below w.heap.size w w' := by
  have nO := is_noIsO
  have uO := is_hasUnwrapO
  have mO := is_methodUnwrapO
  have nE := is_noIsE
  have uE := is_noUnwrapE
  have vE := is_noUnwrapsE
  have nW := is_noIsW
  have uW := is_hasUnwrapW
  have mU := is_methodUnwrap
  have q1 := is_eq
  have q2 := is_ne45
  have q3 := is_ne51
  go_enter Tryd.func41, Tryd.ntmps41
  go_wp2
  go_loopg [0] (n + 2) (fun kq v0 w' => ((∃ j : Nat, v0 = wraps j (.iface 45 (.pointer (some a))) ∧ j + 2 ≤ kq) ∨ (v0 = .iface 48 (.int .i64 80) ∧ 1 ≤ kq)) ∧ Aside0 (Below w.heap.size w w'))
  case atStart => exact ⟨.inl ⟨n, rfl, Nat.le_refl _⟩, ⟨Below.refl _ _⟩⟩
  case round =>
    obtain ⟨hv, HB⟩ := hrel
    rcases hv with ⟨j, rfl, hj⟩ | ⟨rfl, hj⟩
    · cases j with
      | zero =>
        have e0 : wraps 0 (.iface 45 (.pointer (some a))) = .iface 45 (.pointer (some a)) := rfl
        rw [e0]
        go_wp2
        go_roundg (gk - 1)
        case measure => omega
        case rel => exact ⟨.inr ⟨rfl, by omega⟩, HB⟩
      | succ j =>
        have e0 : wraps (j + 1) (.iface 45 (.pointer (some a))) = .iface 51 (.agg #[wraps j (.iface 45 (.pointer (some a)))]) := rfl
        rw [e0]
        obtain ⟨u', x', hu⟩ := wraps_iface j 45 (.pointer (some a))
        have HU := Aside0.mk hu
        rw [hu]
        clear e0 hu
        go_wp2_with (first | (go_at_call 100; refine (unwrapO _ _ _ rfl _).mono ?_; rintro e w3 ⟨rfl, hb⟩))
        go_roundg (gk - 1)
        case measure => omega
        case rel => exact ⟨.inl ⟨j, HU.out.symm, by omega⟩, ⟨below_step HB.out hb⟩⟩
    · cases b with
      | true =>
        go_wp2
        go_ret
        exact ⟨rfl, HB.out⟩
      | false =>
        go_wp2
        go_ret
        exact ⟨rfl, HB.out⟩
end Go.Proofs.YteleaflneejipaaDoor
