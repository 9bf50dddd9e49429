/- The timers in memory; cmp.Compare, cmp.Or and the order of two timers, by contracts. No condition. -/
import Derived.Test.YtjpeaeklhcnpnaaT1
import Derived.Test.YtjpeaeklhcnpnaaShelf
namespace Go.Proofs.Ytjpeaeklhcnpnaa.K
open Go.RowKit Go.Sort
set_option linter.unusedVariables false
set_option linter.unusedSimpArgs false
/-- What cmp.Compare says of two numbers. -/
def ord (x y : Int) : Int := if x < y then -1 else if y < x then 1 else 0
theorem nan71 (x : Int) (w : World) : Calls Try.prog 71 #[.int .i64 x] w fun e w' => e = .returned (.bool false) ∧ w' = w := by
  go_enter Try.func71, Try.ntmps71
  go_wp2
  go_ret
  exact ⟨rfl, rfl⟩
theorem nan72 (x : Int) (w : World) : Calls Try.prog 72 #[.int .u64 x] w fun e w' => e = .returned (.bool false) ∧ w' = w := by
  go_enter Try.func72, Try.ntmps72
  go_wp2
  go_ret
  exact ⟨rfl, rfl⟩
theorem cmp45 (x y : Int) (w : World) : Calls Try.prog 45 #[.int .i64 x, .int .i64 y] w fun e w' => e = .returned (.int .i64 (ord x y)) ∧ w' = w := by
  unfold ord
  by_cases h : x < y
  · rw [if_pos h]
    go_enter Try.func45, Try.ntmps45
    go_wp2_with (go_at_call 71; refine (nan71 _ _).mono ?_; rintro e w' ⟨rfl, hw⟩; obtain rfl := hw.symm)
    go_ret
    exact ⟨rfl, rfl⟩
  · by_cases h2 : y < x
    · rw [if_neg h, if_pos h2]
      go_enter Try.func45, Try.ntmps45
      go_wp2_with (go_at_call 71; refine (nan71 _ _).mono ?_; rintro e w' ⟨rfl, hw⟩; obtain rfl := hw.symm)
      go_ret
      exact ⟨rfl, rfl⟩
    · rw [if_neg h, if_neg h2]
      go_enter Try.func45, Try.ntmps45
      go_wp2_with (go_at_call 71; refine (nan71 _ _).mono ?_; rintro e w' ⟨rfl, hw⟩; obtain rfl := hw.symm)
      go_ret
      exact ⟨rfl, rfl⟩
theorem cmp46 (x y : Int) (w : World) : Calls Try.prog 46 #[.int .u64 x, .int .u64 y] w fun e w' => e = .returned (.int .i64 (ord x y)) ∧ w' = w := by
  unfold ord
  by_cases h : x < y
  · rw [if_pos h]
    go_enter Try.func46, Try.ntmps46
    go_wp2_with (go_at_call 72; refine (nan72 _ _).mono ?_; rintro e w' ⟨rfl, hw⟩; obtain rfl := hw.symm)
    go_ret
    exact ⟨rfl, rfl⟩
  · by_cases h2 : y < x
    · rw [if_neg h, if_pos h2]
      go_enter Try.func46, Try.ntmps46
      go_wp2_with (go_at_call 72; refine (nan72 _ _).mono ?_; rintro e w' ⟨rfl, hw⟩; obtain rfl := hw.symm)
      go_ret
      exact ⟨rfl, rfl⟩
    · rw [if_neg h, if_neg h2]
      go_enter Try.func46, Try.ntmps46
      go_wp2_with (go_at_call 72; refine (nan72 _ _).mono ?_; rintro e w' ⟨rfl, hw⟩; obtain rfl := hw.symm)
      go_ret
      exact ⟨rfl, rfl⟩
/-- cmp.Or of two. -/
theorem or44 {w : World} {b : Nat} {p q : Int} (h0 : w.cell? ⟨b, 0, none⟩ = some (.int .i64 p)) (h1 : w.cell? ⟨b, 1, none⟩ = some (.int .i64 q)) :
    Calls Try.prog 44 #[.slice (some ⟨b, 0, none⟩) 2 2] w fun e w' => e = .returned (.int .i64 (if p = 0 then q else p)) ∧ w' = w := by
  by_cases hp : p = 0
  · rw [if_pos hp]
    subst hp
    by_cases hq : q = 0
    · subst hq
      go_enter Try.func44, Try.ntmps44
      go_wp2
      refine wp_loop_rounds 3 ?_
      rw [rounds_succ]
      go_wp2
      rw [rounds_succ]
      go_wp2
      rw [rounds_succ]
      go_wp2
      go_ret
      exact ⟨rfl, rfl⟩
    · go_enter Try.func44, Try.ntmps44
      go_wp2
      refine wp_loop_rounds 3 ?_
      rw [rounds_succ]
      go_wp2
      rw [rounds_succ]
      go_wp2
      go_ret
      exact ⟨rfl, rfl⟩
  · rw [if_neg hp]
    go_enter Try.func44, Try.ntmps44
    go_wp2
    refine wp_loop_rounds 3 ?_
    rw [rounds_succ]
    go_wp2
    go_ret
    exact ⟨rfl, rfl⟩
end Go.Proofs.Ytjpeaeklhcnpnaa.K
