/- The plain statement of GrainMeets, and the law walked: it returns true. No condition beyond what is read. -/
import Derived.Test.YtabmablgaifidaaR0
import Derived.Test.YtabmablgaifidaaQ3
namespace Go.Proofs.Ytabmablgaifidaa.PGrain
open Go.RowKit Go.Proofs.YtabmablgaifidaaW.PrintWords Go.Proofs.YtabmablgaifidaaW.PrintLast Go.Proofs.YtabmablgaifidaaW.PrintMore
set_option linter.unusedVariables false

theorem span_ext {a b : S26} (h0 : a.f0 = b.f0) (h1 : a.f1 = b.f1) : a = b := by
  cases a
  cases b
  simp_all
theorem meetS_comm (a b : S26) : meetS a b = meetS b a := by
  unfold meetS
  split <;> rename_i h
  · rw [if_pos (by omega)]
  · rw [if_neg (by omega)]
    exact span_ext (by show max _ _ = max _ _; omega) (by show min _ _ = min _ _; omega)
theorem meetS_cases (a b : S26) : (meetS a b = ⟨0, 0⟩ ∧ max a.f0 b.f0 ≥ min a.f1 b.f1) ∨ (¬ max a.f0 b.f0 ≥ min a.f1 b.f1 ∧ (meetS a b).f0 = max a.f0 b.f0 ∧ (meetS a b).f1 = min a.f1 b.f1) := by
  unfold meetS
  split <;> rename_i h
  · exact .inl ⟨rfl, h⟩
  · exact .inr ⟨h, rfl, rfl⟩
theorem meetS_zero (a : S26) : meetS ⟨0, 0⟩ a = ⟨0, 0⟩ ∧ meetS a ⟨0, 0⟩ = ⟨0, 0⟩ := by
  unfold meetS
  constructor
  · rw [if_pos (by show max 0 _ ≥ min 0 _; omega)]
  · rw [if_pos (by show max _ 0 ≥ min _ 0; omega)]
theorem meetS_assoc (a b c : S26) : meetS (meetS a b) c = meetS a (meetS b c) := by
  rcases meetS_cases a b with ⟨h1, h2⟩ | ⟨h1, h2, h3⟩
  · rw [h1, (meetS_zero c).1]
    rcases meetS_cases b c with ⟨g1, g2⟩ | ⟨g1, g2, g3⟩
    · rw [g1, (meetS_zero a).2]
    · rcases meetS_cases a (meetS b c) with ⟨k1, k2⟩ | ⟨k1, k2, k3⟩
      · exact k1.symm
      · rw [g2, g3] at k1; omega
  · rcases meetS_cases b c with ⟨g1, g2⟩ | ⟨g1, g2, g3⟩
    · rw [g1, (meetS_zero a).2]
      rcases meetS_cases (meetS a b) c with ⟨k1, k2⟩ | ⟨k1, k2, k3⟩
      · exact k1
      · rw [h2, h3] at k1; omega
    · rcases meetS_cases (meetS a b) c with ⟨k1, k2⟩ | ⟨k1, k2, k3⟩
      · rcases meetS_cases a (meetS b c) with ⟨m1, m2⟩ | ⟨m1, m2, m3⟩
        · rw [k1, m1]
        · rw [h2, h3] at k2; rw [g2, g3] at m1; omega
      · rcases meetS_cases a (meetS b c) with ⟨m1, m2⟩ | ⟨m1, m2, m3⟩
        · rw [h2, h3] at k1; rw [g2, g3] at m2; omega
        · refine span_ext ?_ ?_
          · rw [k2, m2, h2, g2]; omega
          · rw [k3, m3, h3, g3]; omega
theorem covers_meet (a b : S26) : coversS a (meetS a b) = true := by
  unfold coversS emptyS
  rcases meetS_cases a b with ⟨h1, h2⟩ | ⟨h1, h2, h3⟩
  · rw [h1]; simp
  · rw [h2, h3]
    simp only [Bool.or_eq_true, Bool.and_eq_true, decide_eq_true_eq]
    omega
theorem covers_same {a b : S26} (h : b.f0 < b.f1) : coversS a b = ((meetS a b).f0 == b.f0 && ((meetS a b).f1 == b.f1)) := by
  rw [Bool.eq_iff_iff]
  unfold coversS emptyS
  simp only [Bool.or_eq_true, Bool.and_eq_true, decide_eq_true_eq, beq_iff_eq]
  rcases meetS_cases a b with ⟨h1, h2⟩ | ⟨h1, h2, h3⟩
  · rw [h1]
    show _ ↔ (0 : Int) = _ ∧ (0 : Int) = _
    omega
  · rw [h2, h3]
    omega
theorem meets_j0 (a b : S26) : Ev (fun k => gristmilllaw07_GrainMeets.j0 k false a.f0 a.f1 b.f0 b.f1 (meetS a b).f0 (meetS a b).f1) true := by
  refine Ev.step (f := fun _ => some true) (fun k => ?_) (Ev.now _)
  simp only [gristmilllaw07_GrainMeets.j0, grain_Empty.f, Option.bind_some, covers_is]
  rw [if_neg (by simp)]
  by_cases h : b.f0 < b.f1
  · rw [if_neg (by simp; omega), if_neg (by simp; omega), covers_same h]
    simp
  · have : coversS a b = true := by
      unfold coversS emptyS
      simp only [Bool.or_eq_true, decide_eq_true_eq]
      exact .inl (by omega)
    rw [if_pos (by simp; omega), if_pos this]
theorem meetsLaw_ev (a b c : S26) : Ev (fun k => gristmilllaw07_GrainMeets.f k a.f0 a.f1 b.f0 b.f1 c.f0 c.f1) true := by
  refine Ev.congr (fun k => ?_) (meets_j0 a b)
  unfold gristmilllaw07_GrainMeets.f awakeT.f
  simp only [Option.bind_some, meet_is, covers_is]
  have e1 := meetS_comm b a
  have e2 := meetS_assoc a b c
  rw [e1, e2]
  rw [if_neg (by simp), if_neg (by simp), if_pos (covers_meet a b)]
  have e3 : coversS b (meetS a b) = true := by rw [meetS_comm]; exact covers_meet b a
  rw [e3]
  rfl
theorem law_meets (w : World) (a : S26) (cs : List Value) (h : K.kSpan.K w K.Any a cs) (b : S26) (ds : List Value) (h2 : K.kSpan.K w K.Any b ds) (c : S26) (es : List Value) (h3 : K.kSpan.K w K.Any c es) :
    Calls Try.prog 8 #[.agg cs.toArray, .agg ds.toArray, .agg es.toArray] w fun e w' => e = .returned (.bool true) ∧ Below w.heap.size w w' := by
  obtain ⟨rfl, _⟩ := K.kSpan_open h
  obtain ⟨rfl, _⟩ := K.kSpan_open h2
  obtain ⟨rfl, _⟩ := K.kSpan_open h3
  obtain ⟨k, hk⟩ := Ev.rounds (meetsLaw_ev a b c)
  exact gristmilllaw07_GrainMeets.calls k _ _ _ _ _ _ true w hk
end Go.Proofs.Ytabmablgaifidaa.PGrain
