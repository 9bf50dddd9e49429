/- The plain statement of GrainHolds. No condition beyond what is read. -/
import Derived.Test.YtabmablgaifidaaR0
import Derived.Test.YtabmablgaifidaaPGrainx8
namespace Go.Proofs.Ytabmablgaifidaa.PGrain
open Go.RowKit Go.Proofs.YtabmablgaifidaaW.PrintWords Go.Proofs.YtabmablgaifidaaW.PrintLast Go.Proofs.YtabmablgaifidaaW.PrintMore
set_option linter.unusedVariables false

theorem meet_holds (a b : S26) (t : Int) : holdsS (meetS a b) t = (holdsS a t && holdsS b t) := by
  unfold meetS holdsS
  rw [Bool.eq_iff_iff]
  split
  · simp only [Bool.and_eq_true, decide_eq_true_eq]
    omega
  · simp only [Bool.and_eq_true, decide_eq_true_eq]
    omega
theorem meet_empty {a b : S26} (h : (meetS a b).f0 ≥ (meetS a b).f1) : meetS a b = ⟨0, 0⟩ := by
  unfold meetS at h ⊢
  split
  · rfl
  · rename_i hc
    rw [if_neg hc] at h
    dsimp only at h
    omega
theorem canon_empty {l : List S26} (h : Canon l) (ha : ∀ t, anyS l t = false) : l = [] := canon_unique h canon_nil (fun t => ha t)
/-- A span covers another one just where it leaves nothing of it. -/
theorem covers_parts (a b : S26) : coversS a b = ((partsS [b] [a]).length == 0) := by
  obtain ⟨hc, ha⟩ := parts_spec [b] [a]
  simp only [anyS_cons, anyS_nil, Bool.or_false] at ha
  cases hcv : coversS a b with
  | true =>
    have : partsS [b] [a] = [] := canon_empty hc (fun t => by
      rw [ha t]
      unfold coversS emptyS at hcv
      unfold holdsS
      rw [Bool.eq_false_iff]
      simp only [Bool.or_eq_true, Bool.and_eq_true, decide_eq_true_eq, ne_eq, Bool.not_eq_true', Bool.and_eq_false_iff, decide_eq_false_iff_not] at hcv ⊢
      omega)
    rw [this]; rfl
  | false =>
    have hne : ∃ t, (holdsS b t && !holdsS a t) = true := by
      unfold coversS emptyS at hcv
      simp only [Bool.or_eq_false_iff, Bool.and_eq_false_iff, decide_eq_false_iff_not] at hcv
      obtain ⟨h1, h2⟩ := hcv
      rcases h2 with h2 | h2
      · refine ⟨b.f0, ?_⟩
        unfold holdsS
        simp only [Bool.and_eq_true, decide_eq_true_eq, Bool.not_eq_true', Bool.and_eq_false_iff, decide_eq_false_iff_not]
        omega
      · refine ⟨b.f1 - 1, ?_⟩
        unfold holdsS
        simp only [Bool.and_eq_true, decide_eq_true_eq, Bool.not_eq_true', Bool.and_eq_false_iff, decide_eq_false_iff_not]
        omega
    obtain ⟨t, ht⟩ := hne
    cases hp : partsS [b] [a] with
    | nil =>
      have := ha t
      rw [hp, ht] at this
      simp [anyS] at this
    | cons x r => rfl
theorem holds_j1 (a b : S26) : Ev (fun k => gristmilllaw07_GrainHolds.j1 k false a.f0 a.f1 b.f0 b.f1) true := by
  refine Ev.step (f := fun k => (gristmillref07_Parts.f k [b] [a]).bind fun p => (grain_Covers.f a.f0 a.f1 b.f0 b.f1).bind fun c => some (c == ((p.length : Int) == 0))) (fun k => by simp only [gristmilllaw07_GrainHolds.j1]; rw [if_neg (by simp)]) ?_
  refine Ev.bind (parts_ev (a := [b]) (b := [a]) (by simp)) ?_
  simp only [covers_is, Option.bind_some, covers_parts]
  have e : (((partsS [b] [a]).length == 0) == (((partsS [b] [a]).length : Int) == 0)) = true := by
    cases hp : partsS [b] [a] with
    | nil => rfl
    | cons x r =>
      have h1 : ((x :: r).length == 0) = false := rfl
      have h2 : (((x :: r).length : Int) == 0) = false := by
        rw [beq_eq_false_iff_ne]
        simp
        omega
      rw [h1, h2]
      rfl
  rw [e]
  exact Ev.now _
theorem holds_j0 (a b : S26) (t : Int) : Ev (fun k => gristmilllaw07_GrainHolds.j0 k t (holdsS a t && holdsS b t) a.f0 a.f1 b.f0 b.f1 (meetS a b).f0 (meetS a b).f1) true := by
  refine Ev.step (f := fun k => gristmilllaw07_GrainHolds.j1 k false a.f0 a.f1 b.f0 b.f1) (fun k => ?_) (holds_j1 a b)
  simp only [gristmilllaw07_GrainHolds.j0, grain_Empty.f, Option.bind_some, holds_is, refHolds_is, meet_holds]
  rw [if_neg (by simp), if_neg (by simp), if_neg (by simp)]
  by_cases h : (meetS a b).f0 ≥ (meetS a b).f1
  · rw [if_pos (by simpa using h), meet_empty h]
    rfl
  · rw [if_neg (by simpa using h)]
theorem holdsLaw_ev (a b : S26) (t : Int) : Ev (fun k => gristmilllaw07_GrainHolds.f k a.f0 a.f1 b.f0 b.f1 t) true := by
  unfold gristmilllaw07_GrainHolds.f
  refine Ev.bind awake_ev ?_
  simp only [if_true, meet_is, refHolds_is, Option.bind_some]
  have := holds_j0 a b t
  cases h : holdsS a t with
  | true =>
    rw [h, Bool.true_and] at this
    simpa using this
  | false =>
    rw [h, Bool.false_and] at this
    simpa using this
theorem law_holds (w : World) (a : S26) (cs : List Value) (h : K.kSpan.K w K.Any a cs) (b : S26) (ds : List Value) (h2 : K.kSpan.K w K.Any b ds) (t : Int) (wt : (Lit.int .i64 t).wf = true) :
    Calls Try.prog 9 #[.agg cs.toArray, .agg ds.toArray, .int .i64 t] w fun e w' => e = .returned (.bool true) ∧ Below w.heap.size w w' := by
  obtain ⟨rfl, _⟩ := K.kSpan_open h
  obtain ⟨rfl, _⟩ := K.kSpan_open h2
  obtain ⟨k, hk⟩ := Ev.rounds (holdsLaw_ev a b t)
  exact gristmilllaw07_GrainHolds.calls k _ _ _ _ t true w hk
end Go.Proofs.Ytabmablgaifidaa.PGrain
