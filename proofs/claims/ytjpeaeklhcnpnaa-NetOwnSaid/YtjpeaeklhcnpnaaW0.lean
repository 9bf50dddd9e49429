/- Timers that are nothing. No condition. -/
import Derived.Test.YtjpeaeklhcnpnaaC1
namespace Go.Proofs.Ytjpeaeklhcnpnaa.K
open Go.RowKit
set_option linter.unusedVariables false
set_option linter.unusedSimpArgs false
theorem set_nil (w : World) (id i : Int) : Calls Try.prog 27 #[.pointer none, .int .u64 id, .int .i64 i] w fun e w' => e = .returned (.tuple #[]) ∧ w' = w := by
  go_enter Try.func27, Try.ntmps27
  go_wp2
  exact bodyPost_end (results_none rfl _ _ _) rfl ⟨rfl, rfl⟩
theorem stop_nil (w : World) (id : Int) : Calls Try.prog 28 #[.pointer none, .int .u64 id] w fun e w' => e = .returned (.bool false) ∧ w' = w := by
  go_enter Try.func28, Try.ntmps28
  go_wp2
  go_ret
  exact ⟨rfl, rfl⟩
theorem due_nil (w : World) (i : Int) : Calls Try.prog 29 #[.pointer none, .int .i64 i] w fun e w' => e = .returned (.slice none 0 0) ∧ Below w.heap.size w w' := by
  go_enter Try.func29, Try.ntmps29
  go_wp2
  go_ret
  exact ⟨rfl, below_alloc (below_alloc (Below.refl _ _) _) _⟩
end Go.Proofs.Ytjpeaeklhcnpnaa.K
