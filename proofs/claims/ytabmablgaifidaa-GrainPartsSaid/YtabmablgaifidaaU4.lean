/- The contract of gristmillref07.Bucket at numbers of 64 bits. No condition beyond. -/
import Derived.Test.YtabmablgaifidaaU3
namespace Go.Proofs.Ytabmablgaifidaa.PGrain
open Go.RowKit Go.Proofs.YtabmablgaifidaaW.PrintWords
set_option linter.unusedVariables false

theorem most_div {g : Int} (h1 : 1 ≤ g) : 0 ≤ Int.tdiv 9223372036854775807 g ∧ Int.tdiv 9223372036854775807 g ≤ 9223372036854775807 ∧ Int.tdiv 9223372036854775807 g * g ≤ 9223372036854775807 ∧ 9223372036854775807 < Int.tdiv 9223372036854775807 g * g + g := by
  have h0 : (0 : Int) ≤ 9223372036854775807 := by omega
  rw [Int.tdiv_eq_ediv_of_nonneg h0]
  have a := Int.emod_add_mul_ediv 9223372036854775807 g
  have b := Int.emod_nonneg 9223372036854775807 (show g ≠ 0 by omega)
  have c := Int.emod_lt_of_pos 9223372036854775807 (show 0 < g by omega)
  have d : 0 ≤ 9223372036854775807 / g := Int.ediv_nonneg h0 (by omega)
  rw [Int.mul_comm g] at a
  have e : 9223372036854775807 / g * 1 ≤ 9223372036854775807 / g * g := Int.mul_le_mul_of_nonneg_left h1 d
  refine ⟨d, ?_, ?_, ?_⟩ <;> omega
theorem most_w {g : Int} (h1 : 1 ≤ g) : wrap64 (-Int.tdiv 9223372036854775807 g) = -Int.tdiv 9223372036854775807 g := by
  have := most_div h1
  exact w64 (by unfold I64; omega)
theorem bucket_low {t g : Int} (h1 : 1 ≤ g) (h : floorS t g < -9223372036854775808) : bucketS t g = -9223372036854775808 := by
  unfold bucketS
  rw [if_neg (by omega), if_pos h]
theorem bucket_floor {t g : Int} (h1 : 1 ≤ g) (h : ¬ floorS t g < -9223372036854775808) : bucketS t g = floorS t g := by
  unfold bucketS
  rw [if_neg (by omega), if_neg h]
section
variable {t g q : Int} (ht : I64 t) (hg : I64 g) (h1 : 1 ≤ g) (hq : q * g = floorS t g)
include ht hg h1 hq
theorem floor_wrap : (floorS t g < -9223372036854775808 ∧ 0 < wrap64 (q * g)) ∨ (¬ floorS t g < -9223372036854775808 ∧ wrap64 (q * g) = floorS t g) := by
  have hb := floor_bd (t := t) (show 0 < g by omega)
  unfold I64 at ht hg
  rw [hq]
  by_cases h : floorS t g < -9223372036854775808
  · refine .inl ⟨h, ?_⟩
    unfold wrap64
    omega
  · exact .inr ⟨h, w64 (by unfold I64; omega)⟩
theorem end_low (h2 : q < wrap64 (-Int.tdiv 9223372036854775807 g)) (h3 : 0 < wrap64 (q * g)) : -9223372036854775808 = bucketS t g := by
  rw [most_w h1] at h2
  have hm := most_div h1
  rcases floor_wrap ht hg h1 hq with ⟨h, _⟩ | ⟨h, e⟩
  · exact (bucket_low h1 h).symm
  · rw [e] at h3
    have hq0 : q < 0 := by omega
    have : q * g < 0 := Int.mul_neg_of_neg_of_pos hq0 (by omega)
    omega
theorem end_mid (h3 : wrap64 (q * g) ≤ 0) : wrap64 (q * g) = bucketS t g := by
  rcases floor_wrap ht hg h1 hq with ⟨h, e⟩ | ⟨h, e⟩
  · omega
  · rw [e, bucket_floor h1 h]
theorem end_high (h2 : ¬ q < wrap64 (-Int.tdiv 9223372036854775807 g)) : wrap64 (q * g) = bucketS t g := by
  rw [most_w h1] at h2
  have hm := most_div h1
  have : -Int.tdiv 9223372036854775807 g * g ≤ q * g := Int.mul_le_mul_of_nonneg_right (by omega) (by omega)
  rw [Int.neg_mul] at this
  rcases floor_wrap ht hg h1 hq with ⟨h, e⟩ | ⟨h, e⟩
  · omega
  · rw [e, bucket_floor h1 h]
theorem no_other (hqi : I64 q) (h3 : wrap64 (q * g) ≤ 0) (h4 : (wrap64 ((wrap64 (q * g)).tdiv g) != q) = true) : False := by
  rcases floor_wrap ht hg h1 hq with ⟨h, e⟩ | ⟨h, e⟩
  · omega
  · rw [e, ← hq, Int.mul_tdiv_cancel _ (by omega), w64 hqi] at h4
    simp at h4
end
theorem tdiv_i64 {t g : Int} (ht : I64 t) (h1 : 1 ≤ g) : I64 (t.tdiv g) ∧ (0 ≤ t → 0 ≤ t.tdiv g) ∧ (t ≤ 0 → t.tdiv g ≤ 0) ∧ (-9223372036854775808 < t.tdiv g ∨ t.tmod g = 0) := by
  have a := Int.tmod_add_mul_tdiv t g
  have b := tmod_sign (t := t) (show 0 < g by omega)
  have c := tmod_lt (t := t) (show 0 < g by omega)
  unfold I64 at ht ⊢
  rw [Int.mul_comm] at a
  have d1 : 0 ≤ t.tdiv g → t.tdiv g * 1 ≤ t.tdiv g * g := fun h => Int.mul_le_mul_of_nonneg_left h1 h
  have d2 : t.tdiv g ≤ 0 → t.tdiv g * g ≤ t.tdiv g * 1 := fun h => Int.mul_le_mul_of_nonpos_left h h1
  rcases Int.lt_trichotomy t 0 with h | h | h
  · have hn : ¬ 0 < t.tdiv g := fun hp => by
      have hm := Int.mul_pos hp (show 0 < g by omega)
      have := mul_step (a := 0) (b := t.tdiv g) (show 0 < g by omega) (by omega)
      have := b.2 (by omega)
      omega
    have := d2 (by omega)
    have := b.2 (by omega)
    omega
  · subst h
    simp at *
  · have hn : ¬ t.tdiv g < 0 := fun hp => by
      have := mul_step (a := t.tdiv g) (b := 0) (show 0 < g by omega) (by have := Int.mul_neg_of_neg_of_pos hp (show 0 < g by omega); omega)
      have := b.1 (by omega)
      omega
    have := d1 (by omega)
    have := b.1 (by omega)
    omega
/-- The quotient that goes down. -/
theorem quo_down {t g : Int} (hg : 0 < g) (h : 0 ≤ t ∨ t.tmod g = 0) : t.tdiv g * g = floorS t g := by
  have a := Int.tmod_add_mul_tdiv t g
  have c := tmod_lt (t := t) hg
  rw [Int.mul_comm] at a
  refine (floor_of hg ?_ ?_).symm
  · rcases h with h | h <;> omega
  · rcases h with h | h
    · have := (tmod_sign (t := t) hg).1 h
      omega
    · omega
theorem quo_down2 {t g : Int} (hg : 0 < g) (h : t < 0) (h2 : t.tmod g ≠ 0) : (t.tdiv g - 1) * g = floorS t g := by
  have a := Int.tmod_add_mul_tdiv t g
  have b := (tmod_sign (t := t) hg).2 (by omega)
  have c := tmod_lt (t := t) hg
  rw [Int.mul_comm] at a
  have e : (t.tdiv g - 1) * g = t.tdiv g * g - g := by rw [Int.sub_mul, Int.one_mul]
  exact (floor_of hg (by omega) (by omega)).symm

theorem ends_int {n m : Int} {w w' : World} (h : n = m) (hd : Drawn0 w w') : Ending.returned (Value.int IntKind.i64 n) = Ending.returned (Value.int IntKind.i64 m) ∧ Drawn0 w w' := ⟨by rw [h], hd⟩
set_option maxHeartbeats 1000000 in
theorem refBucket_low (t g : Int) (w : World) (h1 : g < 1) :
    Calls Try.prog 12 #[.int .i64 t, .int .i64 g] w fun e w' => e = .returned (.int .i64 (bucketS t g)) ∧ Drawn0 w w' := by
  have e : bucketS t g = 0 := by unfold bucketS; rw [if_pos h1]
  rw [e]
  clear e
  go_enter Try.func12, Try.ntmps12
  go_wp2
  go_ret
  exact ends_int rfl (Drawn0.refl _)
set_option maxHeartbeats 1000000 in
theorem refBucket_up (t g : Int) (w : World) (ht : I64 t) (hg : I64 g) (h1 : 1 ≤ g) (h0 : 0 ≤ t) :
    Calls Try.prog 12 #[.int .i64 t, .int .i64 g] w fun e w' => e = .returned (.int .i64 (bucketS t g)) ∧ Drawn0 w w' := by
  have HQ := Aside0.mk (quo_down (t := t) (show 0 < g by omega) (.inl h0))
  have HI := Aside0.mk (tdiv_i64 ht h1).1
  have hz : (g == 0) = false := by simp; omega
  have hne : ¬ g = 0 := by omega
  have hlt : decide (g < 1) = false := by simp; omega
  have hlt2 : decide (t < 0) = false := by simp; omega
  go_enter Try.func12, Try.ntmps12
  go_wp2
  all_goals
    go_ret
    have hw := w64 HI.out
    simp only [hw] at *
    refine ends_int ?_ (by repeat (first | exact Drawn0.refl _ | apply Drawn0.step))
    first
      | exact end_low ht hg h1 HQ.out (by assumption) (by assumption)
      | exact end_high ht hg h1 HQ.out (by omega)
      | exact end_mid ht hg h1 HQ.out (by assumption)
      | exact (no_other ht hg h1 HQ.out HI.out (by assumption) (by rename_i h; rcases h with h | h <;> first | exact h | omega)).elim
set_option maxHeartbeats 1000000 in
theorem refBucket_flat (t g : Int) (w : World) (ht : I64 t) (hg : I64 g) (h1 : 1 ≤ g) (h0 : t < 0) (hr : t.tmod g = 0) :
    Calls Try.prog 12 #[.int .i64 t, .int .i64 g] w fun e w' => e = .returned (.int .i64 (bucketS t g)) ∧ Drawn0 w w' := by
  have HQ := Aside0.mk (quo_down (t := t) (show 0 < g by omega) (.inr hr))
  have HI := Aside0.mk (tdiv_i64 ht h1).1
  have hz : (g == 0) = false := by simp; omega
  have hne : ¬ g = 0 := by omega
  have hlt : decide (g < 1) = false := by simp; omega
  have hlt2 : decide (t < 0) = true := by simp; omega
  have hr2 : (t.tmod g != 0) = false := by simpa using hr
  have hr3 : (t.tmod g == 0) = true := by simpa using hr
  go_enter Try.func12, Try.ntmps12
  go_wp2
  all_goals
    go_ret
    have hw := w64 HI.out
    simp only [hw] at *
    refine ends_int ?_ (by repeat (first | exact Drawn0.refl _ | apply Drawn0.step))
    first
      | exact end_low ht hg h1 HQ.out (by assumption) (by assumption)
      | exact end_high ht hg h1 HQ.out (by omega)
      | exact end_mid ht hg h1 HQ.out (by assumption)
      | exact (no_other ht hg h1 HQ.out HI.out (by assumption) (by rename_i h; rcases h with h | h <;> first | exact h | omega)).elim
set_option maxHeartbeats 1000000 in
theorem refBucket_down (t g : Int) (w : World) (ht : I64 t) (hg : I64 g) (h1 : 1 ≤ g) (h0 : t < 0) (hr : t.tmod g ≠ 0) :
    Calls Try.prog 12 #[.int .i64 t, .int .i64 g] w fun e w' => e = .returned (.int .i64 (bucketS t g)) ∧ Drawn0 w w' := by
  have HQ := Aside0.mk (quo_down2 (show 0 < g by omega) h0 hr)
  have hi := tdiv_i64 ht h1
  have HI := Aside0.mk hi.1
  have HI2 := Aside0.mk (show I64 (t.tdiv g - 1) by
    have a := hi.1
    have b := hi.2.2.1 (by omega)
    have c := hi.2.2.2
    unfold I64 at *
    omega)
  have hz : (g == 0) = false := by simp; omega
  have hne : ¬ g = 0 := by omega
  have hlt : decide (g < 1) = false := by simp; omega
  have hlt2 : decide (t < 0) = true := by simp; omega
  have hr2 : (t.tmod g != 0) = true := by simpa using hr
  have hr3 : (t.tmod g == 0) = false := by simpa using hr
  clear hi
  go_enter Try.func12, Try.ntmps12
  go_wp2
  all_goals
    go_ret
    have hw := w64 HI.out
    have hw2 := w64 HI2.out
    simp only [hw, hw2] at *
    refine ends_int ?_ (by repeat (first | exact Drawn0.refl _ | apply Drawn0.step))
    first
      | exact end_low ht hg h1 HQ.out (by assumption) (by assumption)
      | exact end_high ht hg h1 HQ.out (by omega)
      | exact end_mid ht hg h1 HQ.out (by assumption)
      | exact (no_other ht hg h1 HQ.out HI2.out (by assumption) (by rename_i h; rcases h with h | h <;> first | exact h | omega)).elim
theorem refBucket_calls (t g : Int) (w : World) (ht : I64 t) (hg : I64 g) :
    Calls Try.prog 12 #[.int .i64 t, .int .i64 g] w fun e w' => e = .returned (.int .i64 (bucketS t g)) ∧ Drawn0 w w' := by
  by_cases h1 : g < 1
  · exact refBucket_low t g w h1
  by_cases h0 : 0 ≤ t
  · exact refBucket_up t g w ht hg (by omega) h0
  by_cases hr : t.tmod g = 0
  · exact refBucket_flat t g w ht hg (by omega) (by omega) hr
  · exact refBucket_down t g w ht hg (by omega) (by omega) hr
end Go.Proofs.Ytabmablgaifidaa.PGrain
