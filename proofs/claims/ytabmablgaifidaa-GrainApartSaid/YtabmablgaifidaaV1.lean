/- The plain statements of GrainSplits, GrainApart and GrainHolds, and the laws walked: each returns true. No condition beyond what is read. -/
import Derived.Test.YtabmablgaifidaaR0
import Derived.Test.YtabmablgaifidaaPGrainx4
namespace Go.Proofs.Ytabmablgaifidaa.PGrain
open Go.RowKit Go.Proofs.YtabmablgaifidaaW.PrintWords Go.Proofs.YtabmablgaifidaaW.PrintLast Go.Proofs.YtabmablgaifidaaW.PrintMore
set_option linter.unusedVariables false

theorem splitL_length {hi g : Int} : ∀ (n : Nat) (x : Int) (out l : List S26), splitL hi g n x out = some l → l.length ≤ out.length + n
  | 0, x, out, l, h => by
    unfold splitL at h
    split at h
    · cases h
    · injection h with h
      rw [h]; exact Nat.le_refl _
  | n + 1, x, out, l, h => by
    unfold splitL at h
    split at h
    · have := splitL_length n _ _ l h
      rw [List.length_append, List.length_singleton] at this
      omega
    · injection h with h
      rw [h]; omega
theorem splitS_length (s : S26) (g : Int) : (splitS s g).1.length ≤ 1000 := by
  unfold splitS
  split
  · simp
  · cases h : splitL s.f1 g 1000 s.f0 [] with
    | none => simp
    | some l => simpa using splitL_length _ _ _ _ h
theorem splitS_code (s : S26) (g : Int) : ((splitS s g).2 = 0) ∨ ((splitS s g).2 = 1 ∧ (splitS s g).1 = []) := by
  unfold splitS
  split
  · exact .inr ⟨rfl, rfl⟩
  · cases h : splitL s.f1 g 1000 s.f0 [] with
    | none => exact .inr ⟨rfl, rfl⟩
    | some l => exact .inl rfl
theorem ev_j0_far {s : S26} {g : Int} (hs : K.Fit s) (hg : I64 g) : Ev (fun k => gristmilllaw07_GrainSplits.j0 k g true s.f0 s.f1) true := by
  refine Ev.step (f := fun k => (grain_Split.f k s.f0 s.f1 g).bind fun p => if p.2 = 0 then some true else if (p.1.length : Int) = 0 then some (p.2 == 1) else some false) (fun k => by simp only [gristmilllaw07_GrainSplits.j0, if_true]) ?_
  refine Ev.bind (split_ev hs.1 hs.2 hg) ?_
  rcases splitS_code s g with h | ⟨h1, h2⟩
  · simp only [h, if_true]
    exact Ev.now _
  · simp only [h1, h2]
    exact Ev.now _
theorem ev_j0_near {s : S26} {g : Int} (hs : K.Fit s) (hg : I64 g) (h0 : -1152921504606846976 ≤ s.f0 ∧ s.f0 ≤ 1152921504606846976) (h1 : -1152921504606846976 ≤ s.f1 ∧ s.f1 ≤ 1152921504606846976) (h2 : g ≤ 1152921504606846976) : Ev (fun k => gristmilllaw07_GrainSplits.j0 k g false s.f0 s.f1) true := by
  refine Ev.step (f := fun k => (grain_Split.f k s.f0 s.f1 g).bind fun p => (gristmillref07_Split.f k s.f0 s.f1 g).bind fun q => if p.2 = q.2 then (gristmillref07_Same.f k p.1 q.1).bind fun t => some t else some false) (fun k => by simp only [gristmilllaw07_GrainSplits.j0]; rw [if_neg (by simp)]) ?_
  refine Ev.bind (split_ev hs.1 hs.2 hg) ?_
  refine Ev.bind (refSplit_ev h0 h1 h2) ?_
  simp only [if_true]
  have hl := splitS_length s g
  refine Ev.bind (same_ev (l := (splitS s g).1) (by omega)) ?_
  exact Ev.now _
theorem splits_ev {s : S26} {g : Int} (hs : K.Fit s) (hg : I64 g) : Ev (fun k => gristmilllaw07_GrainSplits.f k s.f0 s.f1 g) true := by
  unfold gristmilllaw07_GrainSplits.f
  refine Ev.bind awake_ev ?_
  simp only [if_true]
  by_cases c1 : s.f0 < -1152921504606846976
  · simp only [if_pos c1]; exact ev_j0_far hs hg
  by_cases c2 : s.f0 > 1152921504606846976
  · simp only [if_neg c1, if_pos c2]; exact ev_j0_far hs hg
  by_cases c3 : s.f1 < -1152921504606846976
  · simp only [if_neg c1, if_neg c2, if_pos c3]; exact ev_j0_far hs hg
  by_cases c4 : s.f1 > 1152921504606846976
  · simp only [if_neg c1, if_neg c2, if_neg c3, if_pos c4]; exact ev_j0_far hs hg
  simp only [if_neg c1, if_neg c2, if_neg c3, if_neg c4]
  by_cases c5 : g > 1152921504606846976
  · simp only [decide_eq_true c5]; exact ev_j0_far hs hg
  · simp only [decide_eq_false c5]; exact ev_j0_near hs hg (by omega) (by omega) (by omega)

/-! ### Apart -/
theorem meet_any (a b : S26) (t : Int) : holdsS (meetS a b) t = (holdsS a t && holdsS b t) := by
  unfold meetS holdsS
  rw [Bool.eq_iff_iff]
  split
  · simp only [Bool.and_eq_true, decide_eq_true_eq]
    omega
  · simp only [Bool.and_eq_true, decide_eq_true_eq]
    omega
theorem meets_any (s : S26) (t : Int) : ∀ l : List S26, anyS (l.map (meetS s)) t = (holdsS s t && anyS l t)
  | [] => by simp [anyS]
  | x :: l => by
    rw [List.map_cons, anyS_cons, meets_any s t l, meet_any, anyS_cons]
    cases holdsS s t <;> simp
theorem canon_one {s : S26} (h : s.f0 < s.f1) : Canon [s] := canon_snoc (o := []) canon_nil h (fun s hs => (List.not_mem_nil hs).elim)
/-- What is left of s and what of it others hold: together s. -/
theorem together_is (s : S26) (l : List S26) : unionS (minusS s l ++ unionS (l.map (meetS s))) = if s.f0 < s.f1 then [s] else [] := by
  have key : ∀ t, anyS (unionS (minusS s l ++ unionS (l.map (meetS s)))) t = holdsS s t := fun t => by
    rw [unionS_any, anyS_append, minusS_any, unionS_any, meets_any]
    cases holdsS s t <;> cases anyS l t <;> rfl
  split
  · rename_i h
    exact canon_unique (unionS_canon _) (canon_one h) (fun t => by rw [key, anyS_cons, anyS_nil, Bool.or_false])
  · rename_i h
    refine canon_unique (unionS_canon _) canon_nil (fun t => ?_)
    rw [key, anyS_nil]
    unfold holdsS
    rw [Bool.and_eq_false_iff, decide_eq_false_iff_not, decide_eq_false_iff_not]
    omega
theorem apart_j1 {s : S26} {l : List S26} (hl : l.length ≤ 200) : Ev (fun k => gristmilllaw07_GrainApart.j1 k (minusS s l) (unionS (l.map (meetS s))) false s.f0 s.f1) true := by
  have h1 := minusS_length s l
  have h2 := unionS_length (l.map (meetS s))
  rw [List.length_map] at h2
  refine Ev.step (f := fun _ => some true) (fun k => ?_) (Ev.now _)
  simp only [gristmilllaw07_GrainApart.j1, List.nil_append, List.length_nil, Option.bind_some]
  rw [if_neg (by simp), if_pos (by omega), if_pos (by omega), union_is (by rw [List.length_append]; omega), together_is]
  simp only [grain_Empty.f, Option.bind_some]
  by_cases h : s.f0 < s.f1
  · rw [if_neg (by simp; omega), if_pos h]
    simp [rd_T26]
  · rw [if_pos (by simp; omega), if_neg h]
    simp
theorem apart_loop {s : S26} {t : Int} {l : List S26} (hl : l.length ≤ 200) : ∀ (n i : Nat), i + n = l.length → Ev (fun k => gristmilllaw07_GrainApart.l0 k l t (minusS s l) ((l.take i).map (meetS s)) (i : Int) s.f0 s.f1) true
  | 0, i, hi => by
    obtain rfl : i = l.length := by omega
    rw [List.take_length]
    have h1 := minusS_length s l
    have h2 := unionS_length (l.map (meetS s))
    rw [List.length_map] at h2
    refine Ev.step (f := fun k => (gristmillref07_Any.f k (minusS s l) t).bind fun a => (gristmillref07_Any.f k (unionS (l.map (meetS s))) t).bind fun b => if a = true then (if b = true then gristmilllaw07_GrainApart.j1 k (minusS s l) (unionS (l.map (meetS s))) true s.f0 s.f1 else (grain_Holds.f s.f0 s.f1 t).bind fun c => gristmilllaw07_GrainApart.j1 k (minusS s l) (unionS (l.map (meetS s))) (true != c) s.f0 s.f1) else (grain_Holds.f s.f0 s.f1 t).bind fun c => gristmilllaw07_GrainApart.j1 k (minusS s l) (unionS (l.map (meetS s))) (b != c) s.f0 s.f1) (fun k => ?_) ?_
    · simp only [gristmilllaw07_GrainApart.l0]
      rw [if_neg (Int.lt_irrefl _), union_is (by rw [List.length_map]; omega)]
      rfl
    refine Ev.bind (any_ev (by omega) _) ?_
    refine Ev.bind (any_ev (by omega) _) ?_
    rw [minusS_any, unionS_any, meets_any]
    simp only [holds_is, Option.bind_some]
    have := apart_j1 (s := s) hl
    cases holdsS s t <;> cases anyS l t <;> simpa using this
  | n + 1, i, hi => by
    have hlt : i < l.length := by omega
    have ih := apart_loop (s := s) (t := t) hl n (i + 1) (by omega)
    refine Ev.step (fun k => ?_) ih
    simp only [gristmilllaw07_GrainApart.l0]
    rw [if_pos (by omega), if_pos (by omega), rd_is hlt, meet_is]
    simp only [Option.bind_some]
    rw [if_pos (by rw [List.length_map, List.length_take]; omega), wrap_next hlt (by omega), List.take_succ_eq_append_getElem hlt, List.map_append]
    rfl
theorem apart_ev {s : S26} {t : Int} {l : List S26} : Ev (fun k => gristmilllaw07_GrainApart.f k s.f0 s.f1 l t) true := by
  unfold gristmilllaw07_GrainApart.f
  refine Ev.bind awake_ev ?_
  simp only [if_true]
  by_cases h : (l.length : Int) > 200
  · simp only [if_pos h]; exact Ev.now _
  · simp only [if_neg h]
    refine Ev.bind (minus_ev (by omega)) ?_
    exact apart_loop (s := s) (by omega) l.length 0 (by omega)
theorem law_splits (w : World) (a : S26) (cs : List Value) (h : K.kSpan.K w K.Any a cs) (g : Int) (wg : (Lit.int .i64 g).wf = true) :
    Calls Try.prog 5 #[.agg cs.toArray, .int .i64 g] w fun e w' => e = .returned (.bool true) ∧ Below w.heap.size w w' := by
  obtain ⟨rfl, hf⟩ := K.kSpan_open h
  obtain ⟨k, hk⟩ := Ev.rounds (splits_ev hf (K.i64_of wg))
  exact gristmilllaw07_GrainSplits.calls k _ _ g true w hk
theorem law_apart (w : World) (a : S26) (cs : List Value) (h : K.kSpan.K w K.Any a cs) (xs : List S26) (A : Option Addr) (n c : Nat) (h2 : (K.Kd.slice 16 K.kSpan).K w K.Any xs [.slice A n c]) (t : Int) (wt : (Lit.int .i64 t).wf = true) :
    Calls Try.prog 7 #[.agg cs.toArray, .slice A n c, .int .i64 t] w fun e w' => e = .returned (.bool true) ∧ Below w.heap.size w w' := by
  obtain ⟨rfl, _⟩ := K.kSpan_open h
  obtain ⟨rfl, hc, _, hC, _⟩ := K.kSpans_open h2
  obtain ⟨k, hk⟩ := Ev.rounds (apart_ev (s := a) (t := t) (l := xs))
  exact gristmilllaw07_GrainApart.calls k _ _ A c xs t true w hC hc hk
end Go.Proofs.Ytabmablgaifidaa.PGrain
