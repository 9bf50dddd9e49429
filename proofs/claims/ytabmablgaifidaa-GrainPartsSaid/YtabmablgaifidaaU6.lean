/- The contracts of grain.Empty, of cmp.Compare at int64 and of the comparison that grain.Union sorts by; of slices.Clone at spans. No condition beyond the row's. -/
import Derived.Test.YtabmablgaifidaaU5
import Derived.Deep.DeepMust
namespace Go.Proofs.Ytabmablgaifidaa.PGrain
open Go.RowKit Go.Proofs.YtabmablgaifidaaW.PrintWords
set_option linter.unusedVariables false

theorem empty_calls (a b : Int) (w : World) : Calls Try.prog 20 #[.agg #[.int .i64 a, .int .i64 b]] w fun e w' => e = .returned (.bool (decide (a ≥ b))) ∧ Below w.heap.size w w' := by
  go_enter Try.func20, Try.ntmps20
  go_wp2
  go_ret
  exact ⟨rfl, below_alloc (Below.refl _ w) _⟩
theorem isNaN_calls (a : Int) (w : World) : Calls Try.prog 34 #[.int .i64 a] w fun e w' => e = .returned (.bool false) ∧ w = w' := by
  go_enter Try.func34, Try.ntmps34
  go_wp2
  go_ret
  exact ⟨by simp, rfl⟩
/-- What cmp.Compare answers. -/
def cmpS (a b : Int) : Int := if a < b then -1 else if b < a then 1 else 0
theorem compare_calls (a b : Int) (w : World) : Calls Try.prog 29 #[.int .i64 a, .int .i64 b] w fun e w' => e = .returned (.int .i64 (cmpS a b)) ∧ w = w' := by
  by_cases h1 : a < b
  · have e : cmpS a b = -1 := by simp [cmpS, h1]
    rw [e]
    clear e
    go_enter Try.func29, Try.ntmps29
    go_wp2_with (go_at_call 34; refine (isNaN_calls _ _).mono ?_; rintro e w' ⟨rfl, rfl⟩)
    go_ret
    exact ⟨rfl, rfl⟩
  · by_cases h2 : b < a
    · have e : cmpS a b = 1 := by simp [cmpS, h1, h2]
      rw [e]
      clear e
      go_enter Try.func29, Try.ntmps29
      go_wp2_with (go_at_call 34; refine (isNaN_calls _ _).mono ?_; rintro e w' ⟨rfl, rfl⟩)
      go_ret
      exact ⟨rfl, rfl⟩
    · have e : cmpS a b = 0 := by simp [cmpS, h1, h2]
      rw [e]
      clear e
      go_enter Try.func29, Try.ntmps29
      go_wp2_with (go_at_call 34; refine (isNaN_calls _ _).mono ?_; rintro e w' ⟨rfl, rfl⟩)
      go_ret
      exact ⟨rfl, rfl⟩
theorem cmp_calls (x y : S26) (W : World) : Calls Try.prog 28 #[.agg #[.int .i64 x.f0, .int .i64 x.f1], .agg #[.int .i64 y.f0, .int .i64 y.f1]] W fun e w' => e = .returned (.int .i64 (cmpS x.f0 y.f0)) ∧ ∃ q os', w' = Sort.grow (W.drewN q) os' := by
  go_enter Try.func28, Try.ntmps28
  go_wp2_with (go_at_call 29; refine (compare_calls _ _ _).mono ?_; rintro e w' ⟨rfl, rfl⟩)
  go_ret
  exact ⟨rfl, 0, _, by rw [Sort.alloc_eq_grow, Sort.alloc_eq_grow, Sort.grow_grow]; rfl⟩

theorem clone_calls (A0 : Option Addr) (c0 : Nat) (l : List S26) (w : World) (hr : Kd.C k26 w A0 l.length l) (hb : l.length ≤ 8796093022208) :
    Calls Try.prog 26 #[.slice A0 l.length c0] w fun e w' => ∃ v, e = .returned v ∧ Kd.R k26 26 w' w.heap.size (fun _ => True) v l ∧ Below w.heap.size w w' := by
  rcases A0 with _ | ad
  · have h0 : l.length = 0 := by
      rcases Nat.eq_zero_or_pos l.length with h0 | h0
      · exact h0
      · obtain ⟨ad, h, _⟩ := hr.2.2 h0
        cases h
    obtain rfl : l = [] := List.eq_nil_of_length_eq_zero h0
    have he := fun w => Lib.run_eql_slice_nil (P := Try.prog) w 27 26 none 0 c0 0 0 Try.underlying27
    clear hr hb h0
    show Calls Try.prog 26 #[.slice none 0 c0] w _
    go_enter Try.func26, Try.ntmps26
    go_wp2
    go_ret
    exact ⟨_, rfl, Kd.R_nil _ _ _ _ _, Below.refl _ _⟩
  · have he := fun w => Lib.run_eql_slice_nil (P := Try.prog) w 27 26 (some ad) l.length c0 0 0 Try.underlying27
    have HC := Aside0.mk hr
    clear hr
    go_enter Try.func26, Try.ntmps26
    go_wp2_with (at_builtin; go_must (refine Kd.R_append_rows k26 (Rr := k26.K w) (w0 := w) (W := w.alloc (.cells #[] 26)) w.heap.size rfl (.tmp 5) (.tmp 6) 27 26 (.agg #[(.int .i64 0), (.int .i64 0)]) 16 rfl Try.underlying27 info26 rfl (by decide) (by omega) (.slice (some ⟨w.heap.size, 0, none⟩) 0 0) [] l (some ad) l.length c0 (fun _ => True) (fun _ => False) rfl rfl ?o1 ?o2 ?o3 ?o4 ?o5 ?o6 ?o7 ?o8 ?next))
    case o1 => exact (Row.R (W := w.alloc (.cells #[] 26)) (l := []) ⟨#[], blk_new w _, Nat.zero_le _, rfl, Nat.le_refl _, fun i h => absurd h (Nat.not_lt_zero _)⟩ (Nat.le_refl _) trivial)
    case o2 => exact Kd.C_alloc HC.out _
    case o3 =>
      intro x cs hk
      obtain rfl := k26_open hk
      exact k26_mkM _ _ _ _
    case o4 => exact fun _ h => h.elim
    case o5 => exact fun _ _ => trivial
    case o6 => exact below_alloc (Below.refl _ _) _
    case o7 => simp
    case o8 => simp only [List.length_nil]; omega
    case next =>
      intro v1 w1 ho hb1 hg hat
      have HO := Aside0.mk ho
      have HB := Aside0.mk hb1
      clear ho hb1 hg hat
      go_wp2
      go_ret
      exact ⟨v1, rfl, HO.out, HB.out⟩
end Go.Proofs.Ytabmablgaifidaa.PGrain
