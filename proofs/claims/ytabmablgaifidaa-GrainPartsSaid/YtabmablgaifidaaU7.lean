/- The contracts of slices.IndexFunc and slices.DeleteFunc at spans, the function being grain.Empty. No condition beyond the row's. -/
import Derived.Test.YtabmablgaifidaaU6
namespace Go.Proofs.Ytabmablgaifidaa.PGrain
open Go.RowKit Go.Proofs.YtabmablgaifidaaW.PrintWords
set_option linter.unusedVariables false

theorem enters20 : ∀ args w, (callFunc 20 args).run Try.prog w = .ok (.enter 20 args) w := enters_of Try.func20 (by kernel_rfl) rfl
def Found (l : List S26) (w : World) (e : Ending) (w' : World) : Prop :=
  ∃ n : Int, e = .returned (.int .i64 n) ∧ Below w.heap.size w w' ∧ ((n = -1 ∧ ∀ i (h : i < l.length), emptyS l[i] = false) ∨ ∃ k : Nat, n = k ∧ ∃ h : k < l.length, emptyS l[k] = true ∧ ∀ i (h : i < k), emptyS l[i] = false)
set_option maxHeartbeats 1000000 in
theorem index_calls (g cap : Nat) (l : List S26) (w : World) (hr : Row w g cap l) (hm : l.length ≤ 8796093022208) :
    Calls Try.prog 31 #[.slice (some ⟨g, 0, none⟩) l.length cap, .func (.func 20) #[] #[]] w (Found l w) := by
  have HR := Aside0.mk hr
  clear hr
  have e20 := enters20
  go_enter Try.func31, Try.ntmps31
  go_wp2
  go_loopw [8] (fun i wr => ∃ k : Nat, k ≤ l.length ∧ i = .int .i64 k ∧ Aside0 (Below w.heap.size w wr) ∧ Aside0 (∀ i (h : i < l.length), i < k → emptyS l[i] = false)) (fun i _ => l.length - (intOf i).toNat)
  case atStart => exact ⟨0, Nat.zero_le _, rfl, ⟨Below.refl _ _⟩, ⟨fun i h hk => absurd hk (Nat.not_lt_zero _)⟩⟩
  case round =>
    obtain ⟨k, hk, rfl, HB, HE⟩ := hrel
    by_cases hlt : k < l.length
    · obtain ⟨c0, c1⟩ := (HR.out.below HB.out).cell k hlt
      go_wp2_with fail
      refine (empty_calls _ _ _).mono ?_
      rintro e w2 ⟨rfl, hb⟩
      have HB2 := Aside0.mk (below_then HB.out HB.out.size hb)
      clear hb c0 c1
      cases hd : decide (l[k].f0 ≥ l[k].f1) with
      | true =>
        have HD := Aside0.mk hd
        clear hd
        go_wp2
        go_ret
        exact ⟨_, rfl, HB2.out, .inr ⟨k, rfl, hlt, HD.out, fun i h => HE.out i (by omega) h⟩⟩
      | false =>
        have HD := Aside0.mk hd
        clear hd
        go_wp2
        go_roundw
        case rel =>
          refine ⟨k + 1, by omega, by go_num, HB2, ⟨fun i h hk => ?_⟩⟩
          by_cases e : i = k
          · subst e; exact HD.out
          · exact HE.out i h (by omega)
        case measure => simp [intOf]; omega
    · obtain rfl : k = l.length := by omega
      go_wp2
      go_ret
      exact ⟨-1, rfl, HB.out, .inl ⟨rfl, fun i h => HE.out i h h⟩⟩
end Go.Proofs.Ytabmablgaifidaa.PGrain
