/- The plain statement of GrainParts, and the law walked: it returns true. No condition beyond what is read. -/
import Derived.Test.YtabmablgaifidaaR0
import Derived.Test.YtabmablgaifidaaE1
import Derived.Test.YtabmablgaifidaaQ2
namespace Go.Proofs.Ytabmablgaifidaa.PGrain
open Go.RowKit Go.Proofs.YtabmablgaifidaaW.PrintWords Go.Proofs.YtabmablgaifidaaW.PrintLast Go.Proofs.YtabmablgaifidaaW.PrintMore
set_option linter.unusedVariables false
set_option linter.unusedSectionVars false

theorem partsnL_length {hi g : Int} : ∀ (n : Nat) (x : Int) (out l : List S26), splitL hi g n x out = some l → l.length ≤ out.length + n
  | 0, x, out, l, h => by
    unfold splitL at h
    split at h
    · cases h
    · injection h with h
      rw [h]; exact Nat.le_refl _
  | n + 1, x, out, l, h => by
    unfold splitL at h
    split at h
    · have := partsnL_length n _ _ l h
      rw [List.length_append, List.length_singleton] at this
      omega
    · injection h with h
      rw [h]; omega
theorem partsn_length (s : S26) (g : Int) : (splitS s g).1.length ≤ 1000 := by
  unfold splitS
  split
  · simp
  · cases h : splitL s.f1 g 1000 s.f0 [] with
    | none => simp
    | some l => simpa using partsnL_length _ _ _ _ h
theorem partsn_code (s : S26) (g : Int) : ((splitS s g).2 = 0) ∨ ((splitS s g).2 = 1 ∧ (splitS s g).1 = []) := by
  unfold splitS
  split
  · exact .inr ⟨rfl, rfl⟩
  · cases h : splitL s.f1 g 1000 s.f0 [] with
    | none => exact .inr ⟨rfl, rfl⟩
    | some l => exact .inl rfl
theorem cut_get {g hi : Int} (hg : 0 < g) : ∀ (l : List S26) (x : Int), Cut g x hi l → ∀ (i : Nat) (h : i < l.length),
    x ≤ l[i].f0 ∧ l[i].f0 < l[i].f1 ∧ l[i].f1 ≤ hi ∧ l[i].f1 ≤ nextS l[i].f0 g ∧ (i = 0 → l[i].f0 = x) ∧ (∀ j (hj : j < l.length), i = j + 1 → l[j].f1 = l[i].f0) ∧ (i + 1 = l.length → l[i].f1 = hi)
  | [], _, _, i, h => absurd h (Nat.not_lt_zero _)
  | s :: l, x, hc, 0, h => by
    obtain ⟨h0, h1, h2, h3⟩ := hc
    have hn := next_bd (t := x) hg
    refine ⟨by show x ≤ s.f0; omega, by show s.f0 < s.f1; omega, by show s.f1 ≤ hi; omega, by show s.f1 ≤ nextS s.f0 g; rw [h0]; omega, fun _ => h0, fun j hj e => by omega, fun e => ?_⟩
    cases l with
    | nil =>
      have : hi ≤ s.f1 := h3
      show s.f1 = hi
      omega
    | cons y l => simp at e
  | s :: l, x, hc, i + 1, h => by
    obtain ⟨h0, h1, h2, h3⟩ := hc
    have hn := next_bd (t := x) hg
    have hlt : i < l.length := by simpa using h
    obtain ⟨k0, k1, k2, k3, k4, k5, k6⟩ := cut_get hg l s.f1 h3 i hlt
    refine ⟨by show x ≤ l[i].f0; omega, k1, k2, k3, fun e => by omega, fun j hj e => ?_, fun e => k6 (by simpa using e)⟩
    obtain rfl : i = j := by omega
    show (s :: l)[i].f1 = l[i].f0
    cases i with
    | zero => exact (k4 rfl).symm
    | succ m => exact k5 m (by omega) rfl
def countS (l : List S26) (t : Int) : Int := match l with
  | [] => 0
  | s :: l => (if holdsS s t = true then 1 else 0) + countS l t
theorem countS_snoc (t : Int) (s : S26) : ∀ l : List S26, countS (l ++ [s]) t = countS l t + (if holdsS s t = true then 1 else 0)
  | [] => by simp [countS]
  | x :: l => by
    rw [List.cons_append, countS, countS_snoc t s l, countS]
    omega
theorem countS_bd (t : Int) : ∀ l : List S26, 0 ≤ countS l t ∧ countS l t ≤ l.length
  | [] => ⟨Int.le_refl _, Int.le_refl _⟩
  | x :: l => by
    have := countS_bd t l
    rw [countS, List.length_cons]
    split <;> omega
theorem cut_count {g hi t : Int} (hg : 0 < g) : ∀ (l : List S26) (x : Int), Cut g x hi l → countS l t = if holdsS ⟨x, hi⟩ t = true then 1 else 0
  | [], x, h => by
    have h : hi ≤ x := h
    have : holdsS ⟨x, hi⟩ t = false := by
      unfold holdsS
      rw [Bool.and_eq_false_iff, decide_eq_false_iff_not, decide_eq_false_iff_not]
      show ¬ x ≤ t ∨ ¬ t < hi
      omega
    rw [this]
    rfl
  | s :: l, x, hc => by
    obtain ⟨h0, h1, h2, h3⟩ := hc
    have hn := next_bd (t := x) hg
    rw [countS, cut_count hg l s.f1 h3]
    unfold holdsS
    simp only [Bool.and_eq_true, decide_eq_true_eq]
    split <;> split <;> split <;> omega
theorem splitS_cut {s : S26} {g : Int} (h : (splitS s g).2 = 0) : 0 < g ∧ Cut g s.f0 s.f1 (splitS s g).1 := by
  unfold splitS at h ⊢
  split at h
  · cases h
  · rename_i hg
    rw [if_neg hg]
    cases h' : splitL s.f1 g 1000 s.f0 [] with
    | none => rw [h'] at h; cases h
    | some l =>
      obtain ⟨r, rfl, hr⟩ := splitL_cut _ _ _ _ h'
      exact ⟨by omega, hr⟩

section
variable {s : S26} {g t : Int} (hs : K.Fit s) (hg : I64 g) (h0 : 0 < g) {l : List S26} (hl : l.length ≤ 1000) (hc : Cut g s.f0 s.f1 l)
include hs hg h0 hl hc
theorem parts_bucket {i : Nat} (hi : i < l.length) : grain_Bucket.f (wrap64 (l[i].f1 - 1)) g = grain_Bucket.f l[i].f0 g := by
  obtain ⟨k0, k1, k2, k3, _⟩ := cut_get h0 l _ hc i hi
  have hs0 := hs.1
  have hs1 := hs.2
  unfold I64 at hs0 hs1
  have e : I64 (l[i].f1 - 1) := by unfold I64; omega
  rw [w64 e, bucket_is e hg, bucket_is (by unfold I64; omega) hg]
  have hb := floor_bd (t := l[i].f0) h0
  have : floorS (l[i].f1 - 1) g = floorS l[i].f0 g := floor_same h0 (by omega) (by unfold nextS at k3; omega)
  unfold bucketS
  rw [this]
theorem cutparts_end (i : Nat) (hi : i = l.length) : Ev (fun k => gristmilllaw07_GrainParts.l0 k g t l (countS l t) (i : Int) s.f0 s.f1) true := by
  subst hi
  refine Ev.step (f := fun _ => some true) (fun k => ?_) (Ev.now _)
  simp only [gristmilllaw07_GrainParts.l0]
  rw [if_neg (Int.lt_irrefl _)]
  have hcnt := cut_count (t := t) h0 l _ hc
  have key : ((grain_Holds.f s.f0 s.f1 t).bind fun t110 => (if ((countS l t == 1) == t110) = true then (some (decide (countS l t ≤ 1))) else (none))) = some true := by
    rw [holds_is, Option.bind_some, hcnt]
    cases h : holdsS ⟨s.f0, s.f1⟩ t with
    | true => rfl
    | false => rfl
  rw [key]
  by_cases hp : (l.length : Int) > 0
  · have hp' : 0 < l.length := by omega
    have e0 := (cut_get h0 l _ hc 0 hp').2.2.2.2.1 rfl
    have e1 := (cut_get h0 l _ hc (l.length - 1) (by omega)).2.2.2.2.2.2 (by omega)
    have ew : wrap64 ((l.length : Int) - 1) = ((l.length - 1 : Nat) : Int) := by
      rw [w64 (by unfold I64; omega)]
      omega
    rw [if_pos hp, if_pos hp, ew, rd_is (xs := l) (i := l.length - 1) (by omega), e1]
    have er : rd_T26 l 0 = l[0] := rd_is (xs := l) (i := 0) hp'
    rw [er, if_pos e0, if_pos (by omega), if_pos (by omega), if_pos rfl]
  · rw [if_neg hp]
theorem cutparts_loop : ∀ (n i : Nat), i + n = l.length → Ev (fun k => gristmilllaw07_GrainParts.l0 k g t l (countS (l.take i) t) (i : Int) s.f0 s.f1) true
  | 0, i, hi => by
    obtain rfl : i = l.length := by omega
    rw [List.take_length]
    exact cutparts_end hs hg h0 hl hc _ rfl
  | n + 1, i, hi => by
    have hlt : i < l.length := by omega
    have ih := cutparts_loop n (i + 1) (by omega)
    obtain ⟨k0, k1, k2, k3, k4, k5, k6⟩ := cut_get h0 l _ hc i hlt
    have hb := parts_bucket hs hg h0 hl hc hlt
    have hbd := countS_bd t (l.take i)
    rw [List.length_take] at hbd
    have hcov : coversS s l[i] = true := by
      unfold coversS
      rw [Bool.or_eq_true, Bool.and_eq_true, decide_eq_true_eq, decide_eq_true_eq]
      exact .inr (by omega)
    have hj : ∀ c, c = countS (l.take (i + 1)) t → Ev (fun k => gristmilllaw07_GrainParts.j1 k g t l c (i : Int) s.f0 s.f1) true := fun c e => by
      subst e
      have hi0 : I64 l[i].f0 := by
        have hs0 := hs.1
        have hs1 := hs.2
        unfold I64 at hs0 hs1 ⊢
        omega
      refine Ev.step (fun k => ?_) ih
      simp only [gristmilllaw07_GrainParts.j1]
      rw [if_pos (by omega), if_pos (by omega), rd_is hlt, hb, bucket_is hi0 hg, wrap_next hlt (by omega)]
      unfold emptyN.f coversY.f
      rw [if_pos k1, if_pos hcov]
      simp only [Option.bind_some, if_true]
      by_cases hz : (i : Int) > 0
      · have ew : wrap64 ((i : Int) - 1) = ((i - 1 : Nat) : Int) := by
          rw [w64 (by unfold I64; omega)]
          omega
        have ej := k5 (i - 1) (by omega) (by omega)
        rw [if_pos hz, ew, if_pos (by omega), if_pos (by omega), rd_is (xs := l) (i := i - 1) (by omega), if_pos ej]
      · rw [if_neg hz]
    have e : countS (l.take (i + 1)) t = countS (l.take i) t + (if holdsS l[i] t = true then 1 else 0) := by
      rw [List.take_succ_eq_append_getElem hlt, countS_snoc]
    by_cases hh : holdsS l[i] t = true
    · refine Ev.step (fun k => ?_) (hj (wrap64 (countS (l.take i) t + 1)) (by rw [e, if_pos hh, w64 (by unfold I64; omega)]))
      simp only [gristmilllaw07_GrainParts.l0]
      rw [if_pos (by omega), if_pos (by omega), rd_is hlt, holds_is, Option.bind_some, if_pos hh]
    · refine Ev.step (fun k => ?_) (hj (countS (l.take i) t) (by rw [e, if_neg hh, Int.add_zero]))
      simp only [gristmilllaw07_GrainParts.l0]
      rw [if_pos (by omega), if_pos (by omega), rd_is hlt, holds_is, Option.bind_some, if_neg hh]
end
theorem partsLaw_ev {s : S26} {g : Int} (t : Int) (hs : K.Fit s) (hg : I64 g) : Ev (fun k => gristmilllaw07_GrainParts.f k s.f0 s.f1 g t) true := by
  unfold gristmilllaw07_GrainParts.f awakeT.f
  simp only [Option.bind_some]
  refine Ev.bind (split_ev hs.1 hs.2 hg) ?_
  by_cases h : (splitS s g).2 = 0
  · simp only [if_pos h]
    obtain ⟨h0, hc⟩ := splitS_cut h
    have hl := partsn_length s g
    exact cutparts_loop hs hg h0 hl hc (splitS s g).1.length 0 (by omega)
  · simp only [if_neg h]
    rcases partsn_code s g with h' | ⟨_, h'⟩
    · exact absurd h' h
    · rw [h']
      exact Ev.now _
theorem law_parts (w : World) (a : S26) (cs : List Value) (h : K.kSpan.K w K.Any a cs) (g : Int) (wg : (Lit.int .i64 g).wf = true) (t : Int) (wt : (Lit.int .i64 t).wf = true) :
    Calls Try.prog 6 #[.agg cs.toArray, .int .i64 g, .int .i64 t] w fun e w' => e = .returned (.bool true) ∧ Below w.heap.size w w' := by
  obtain ⟨rfl, hf⟩ := K.kSpan_open h
  obtain ⟨k, hk⟩ := Ev.rounds (partsLaw_ev t hf (K.i64_of wg))
  exact gristmilllaw07_GrainParts.calls k _ _ _ _ true w hk
end Go.Proofs.Ytabmablgaifidaa.PGrain
