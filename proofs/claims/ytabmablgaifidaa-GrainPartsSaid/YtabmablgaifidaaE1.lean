/- What the printed functions of package grain come to: Bucket, Split, Minus; plainly. No condition beyond numbers of 64 bits and lengths. -/
import Derived.Test.YtabmablgaifidaaPGrainx3
namespace Go.Proofs.Ytabmablgaifidaa.PGrain
open Go.RowKit Go.Proofs.YtabmablgaifidaaW.PrintWords Go.Proofs.YtabmablgaifidaaW.PrintLast Go.Proofs.YtabmablgaifidaaW.PrintMore
set_option linter.unusedVariables false

theorem bucket_is {t g : Int} (ht : I64 t) (hg : I64 g) : grain_Bucket.f t g = some (bucketS t g) := by
  unfold grain_Bucket.f bucketS
  by_cases h1 : g < 1
  · rw [if_pos h1, if_pos h1]
  rw [if_neg h1, if_neg h1, if_neg (show ¬ g = 0 by omega)]
  have hr := rest_tmod (t := t) (show 0 < g by omega)
  have hl := tmod_lt (t := t) (show 0 < g by omega)
  have hb := floor_bd (t := t) (show 0 < g by omega)
  unfold floorS at hb ⊢
  unfold I64 at ht hg
  by_cases h2 : t.tmod g < 0
  · rw [if_pos h2] at hr
    rw [if_pos h2, w64 (n := t.tmod g + g) (by unfold I64; omega), w64 (n := -9223372036854775808 + (t.tmod g + g)) (by unfold I64; omega)]
    by_cases h3 : t < -9223372036854775808 + (t.tmod g + g)
    · rw [if_pos h3, if_pos (by omega)]
    · rw [if_neg h3, if_neg (by omega), w64 (by unfold I64; omega), hr]
  · rw [if_neg h2] at hr
    rw [if_neg h2, w64 (n := -9223372036854775808 + t.tmod g) (by unfold I64; omega)]
    by_cases h3 : t < -9223372036854775808 + t.tmod g
    · rw [if_pos h3, if_pos (by omega)]
    · rw [if_neg h3, if_neg (by omega), w64 (by unfold I64; omega), hr]
theorem refBucket_is {t g : Int} (ht : I64 t) (hg : I64 g) : gristmillref07_Bucket.f t g = some (bucketS t g) := by
  unfold gristmillref07_Bucket.f
  rw [if_pos ⟨ht, hg⟩]

/-- One part of a cut, as the program takes it. -/
theorem split_step {g x hi : Int} {out : List S26} (hx : I64 x) (hh : I64 hi) (hg : I64 g) (h1 : 1 ≤ g) (hlt : x < hi) (hn : out.length < 1000) (k : Nat) (a b : Int) :
    grain_Split.l0 (k + 1) g out x a hi = grain_Split.l0 k g (out ++ [⟨x, min hi (nextS x g)⟩]) (min hi (nextS x g)) a hi := by
  have hr := rest_tmod (t := x) (show 0 < g by omega)
  have hl := tmod_lt (t := x) (show 0 < g by omega)
  have hb := floor_bd (t := x) (show 0 < g by omega)
  have hnx : nextS x g = x - x % g + g := rfl
  have h1000 : ¬ (out.length : Int) = 1000 := by omega
  have hcap : out.length < 8796093022208 := by omega
  unfold I64 at hx hh hg
  have hd : IntKind.u64.wrap (IntKind.u64.wrap hi - IntKind.u64.wrap x) = hi - x := by
    rw [u64w, u64w, u64w]
    omega
  simp only [grain_Split.l0]
  rw [if_pos hlt, if_neg h1000, if_neg (show ¬ g = 0 by omega), hd]
  have hpos : ∀ y : Int, 0 < y → y ≤ 9223372036854775807 → IntKind.u64.wrap y = y := fun y _ _ => by rw [u64w]; omega
  by_cases h2 : x.tmod g > 0
  · rw [if_neg (by omega)] at hr
    rw [if_pos h2, w64 (n := g - x.tmod g) (by unfold I64; omega), hpos _ (by omega) (by omega)]
    by_cases h3 : hi - x > g - x.tmod g
    · have e : min hi (nextS x g) = x + (g - x.tmod g) := by rw [hnx, hr]; omega
      rw [if_pos h3, if_pos hcap, w64 (n := x + (g - x.tmod g)) (by unfold I64; omega), e]
    · have e : min hi (nextS x g) = hi := by rw [hnx, hr]; omega
      rw [if_neg h3, if_pos hcap, e]
  · rw [if_neg h2]
    by_cases h4 : x.tmod g < 0
    · rw [if_pos h4] at hr
      rw [if_pos h4, w64 (n := -x.tmod g) (by unfold I64; omega), hpos _ (by omega) (by omega)]
      by_cases h3 : hi - x > -x.tmod g
      · have e : min hi (nextS x g) = x + -x.tmod g := by rw [hnx, hr]; omega
        rw [if_pos h3, if_pos hcap, w64 (n := x + -x.tmod g) (by unfold I64; omega), e]
      · have e : min hi (nextS x g) = hi := by rw [hnx, hr]; omega
        rw [if_neg h3, if_pos hcap, e]
    · rw [if_neg h4] at hr
      rw [if_neg h4, hpos _ (by omega) (by omega)]
      by_cases h3 : hi - x > g
      · have e : min hi (nextS x g) = x + g := by rw [hnx, hr]; omega
        rw [if_pos h3, if_pos hcap, w64 (n := x + g) (by unfold I64; omega), e]
      · have e : min hi (nextS x g) = hi := by rw [hnx, hr]; omega
        rw [if_neg h3, if_pos hcap, e]
def splitR (r : Option (List S26)) : List S26 × Int := match r with
  | none => ([], 1)
  | some l => (l, 0)
theorem split_loop {g hi a : Int} (hh : I64 hi) (hg : I64 g) (h1 : 1 ≤ g) : ∀ (n : Nat) (x : Int) (out : List S26), I64 x → out.length + n = 1000 → Ev (fun k => grain_Split.l0 k g out x a hi) (splitR (splitL hi g n x out))
  | 0, x, out, hx, hn => by
    refine Ev.step (f := fun _ => some (splitR (splitL hi g 0 x out))) (fun k => ?_) (Ev.now _)
    simp only [grain_Split.l0, splitL]
    by_cases hlt : x < hi
    · rw [if_pos hlt, if_pos hlt, if_pos (by omega)]; rfl
    · rw [if_neg hlt, if_neg hlt]; rfl
  | n + 1, x, out, hx, hn => by
    by_cases hlt : x < hi
    · have hb := next_bd (t := x) (show 0 < g by omega)
      have ih := split_loop (a := a) hh hg h1 n (min hi (nextS x g)) (out ++ [⟨x, min hi (nextS x g)⟩]) (by unfold I64 at *; omega) (by simp; omega)
      have e : splitL hi g (n + 1) x out = splitL hi g n (min hi (nextS x g)) (out ++ [⟨x, min hi (nextS x g)⟩]) := by
        simp only [splitL]
        rw [if_pos hlt]
      rw [e]
      exact Ev.step (fun k => split_step hx hh hg h1 hlt (by omega) k a hi) ih
    · refine Ev.step (f := fun _ => some (splitR (splitL hi g (n + 1) x out))) (fun k => ?_) (Ev.now _)
      simp only [grain_Split.l0, splitL]
      rw [if_neg hlt, if_neg hlt]; rfl
theorem split_ev {a b g : Int} (ha : I64 a) (hb : I64 b) (hg : I64 g) : Ev (fun k => grain_Split.f k a b g) (splitS ⟨a, b⟩ g) := by
  unfold grain_Split.f splitS
  by_cases h1 : g < 1
  · simp only [if_pos h1]
    exact Ev.now _
  · simp only [if_neg h1]
    have := split_loop (a := a) hb hg (by omega) 1000 a [] ha rfl
    exact this

/-! ### Minus -/
theorem mx_is (a b : Int) : mx a b = max a b := by unfold mx; omega
theorem mn_is (a b : Int) : mn a b = min a b := by unfold mn; omega
theorem rd_is {xs : List S26} {i : Nat} (h : i < xs.length) : rd_T26 xs (i : Int) = xs[i] := by
  unfold rd_T26
  rw [Int.toNat_natCast, List.getD_eq_getElem?_getD, List.getElem?_eq_getElem h]
  rfl
theorem wrap_next {i n : Nat} (h : i < n) (hn : n ≤ 8796093022208) : wrap64 ((i : Int) + 1) = ((i + 1 : Nat) : Int) := by
  rw [w64 (by unfold I64; omega)]
  omega
theorem minus_loop {u : List S26} {b : Int} (hu : u.length ≤ 8796093022207) : ∀ (n i : Nat) (a : Int) (out : List S26), i + n = u.length → out.length ≤ i →
    Ev (fun k => grain_Minus.l0 k out u (u.length : Int) (i : Int) a b) (if (cutsS (⟨a, b⟩, out) (u.drop i)).1.f0 < (cutsS (⟨a, b⟩, out) (u.drop i)).1.f1 then (cutsS (⟨a, b⟩, out) (u.drop i)).2 ++ [(cutsS (⟨a, b⟩, out) (u.drop i)).1] else (cutsS (⟨a, b⟩, out) (u.drop i)).2)
  | 0, i, a, out, hi, ho => by
    obtain rfl : i = u.length := by omega
    rw [List.drop_length]
    show Ev _ (if a < b then out ++ [⟨a, b⟩] else out)
    refine Ev.step (f := fun _ => some _) (fun k => ?_) (Ev.now _)
    simp only [grain_Minus.l0, grain_Empty.f, Option.bind_some]
    rw [if_neg (Int.lt_irrefl _)]
    by_cases h : a < b
    · rw [if_neg (by simp; omega), if_pos (by omega), if_pos h]
    · rw [if_pos (by simp; omega), if_neg h]
  | n + 1, i, a, out, hi, ho => by
    have hlt : i < u.length := by omega
    have e : u.drop i = u[i] :: u.drop (i + 1) := List.drop_eq_getElem_cons hlt
    rw [e]
    have e2 : ∀ p, cutsS p (u[i] :: u.drop (i + 1)) = cutsS (cutS p u[i]) (u.drop (i + 1)) := fun _ => rfl
    rw [e2]
    unfold cutS
    dsimp only
    by_cases hc : a < min b u[i].f0
    · rw [if_pos hc]
      have ih := minus_loop (b := b) hu n (i + 1) (max a u[i].f1) (out ++ [⟨a, min b u[i].f0⟩]) (by omega) (by simp; omega)
      refine Ev.step (fun k => ?_) ih
      simp only [grain_Minus.l0, grain_Empty.f, Option.bind_some]
      rw [if_pos (by omega), if_pos (by omega), if_pos (by omega), rd_is hlt, mn_is, mx_is, if_neg (by simp; omega), if_pos (by omega), wrap_next hlt (by omega)]
    · rw [if_neg hc]
      have ih := minus_loop (b := b) hu n (i + 1) (max a u[i].f1) out (by omega) (by omega)
      refine Ev.step (fun k => ?_) ih
      simp only [grain_Minus.l0, grain_Empty.f, Option.bind_some]
      rw [if_pos (by omega), if_pos (by omega), if_pos (by omega), rd_is hlt, mn_is, mx_is, if_pos (by simp; omega), wrap_next hlt (by omega)]
theorem union_is {l : List S26} (h : l.length ≤ 8796093022208) : grain_Union.f l = some (unionS l) := by
  unfold grain_Union.f
  rw [if_pos h]
theorem minus_ev {a b : Int} {l : List S26} (h : l.length ≤ 8796093022207) : Ev (fun k => grain_Minus.f k a b l) (minusS ⟨a, b⟩ l) := by
  unfold grain_Minus.f
  simp only [union_is (show l.length ≤ 8796093022208 by omega), Option.bind_some]
  have hl := unionS_length l
  have := minus_loop (u := unionS l) (b := b) (by omega) (unionS l).length 0 a [] (by omega) (by simp)
  rw [List.drop_zero] at this
  exact this
theorem meet_is (a b : S26) : grain_Meet.f a.f0 a.f1 b.f0 b.f1 = some ((meetS a b).f0, (meetS a b).f1) := by
  unfold grain_Meet.f grain_Empty.f meetS
  rw [mx_is, mn_is]
  simp only [Option.bind_some]
  by_cases h : max a.f0 b.f0 ≥ min a.f1 b.f1
  · rw [if_pos (by simpa using h), if_pos h]
  · rw [if_neg (by simpa using h), if_neg h]
theorem holds_is (s : S26) (t : Int) : grain_Holds.f s.f0 s.f1 t = some (holdsS s t) := by
  unfold grain_Holds.f holdsS
  by_cases h : s.f0 ≤ t
  · rw [if_pos h]; simp [h]
  · rw [if_neg h]; simp [h]
theorem refHolds_is (s : S26) (t : Int) : gristmillref07_Holds.f s.f0 s.f1 t = some (holdsS s t) := by
  unfold gristmillref07_Holds.f holdsS
  by_cases h : s.f0 ≤ t
  · rw [if_pos h]; simp [h]
  · rw [if_neg h]; simp [h]

/-! ### The reference's Any, Same -/
theorem any_loop {l : List S26} {t : Int} (hl : l.length ≤ 8796093022208) : ∀ (n i : Nat), i + n = l.length → Ev (fun k => gristmillref07_Any.l0 k l t (i : Int)) (anyS (l.drop i) t)
  | 0, i, hi => by
    obtain rfl : i = l.length := by omega
    rw [List.drop_length]
    refine Ev.step (f := fun _ => some _) (fun k => ?_) (Ev.now _)
    simp only [gristmillref07_Any.l0]
    rw [if_neg (Int.lt_irrefl _)]
    rfl
  | n + 1, i, hi => by
    have hlt : i < l.length := by omega
    rw [List.drop_eq_getElem_cons hlt, anyS_cons]
    cases hh : holdsS l[i] t with
    | true =>
      refine Ev.step (f := fun _ => some _) (fun k => ?_) (Ev.now _)
      simp only [gristmillref07_Any.l0]
      rw [if_pos (by omega), if_pos (by omega), rd_is hlt, refHolds_is, hh]
      simp
    | false =>
      refine Ev.step (fun k => ?_) (any_loop hl n (i + 1) (by omega))
      simp only [gristmillref07_Any.l0]
      rw [if_pos (by omega), if_pos (by omega), rd_is hlt, refHolds_is, hh]
      simp only [Option.bind_some]
      rw [if_neg (by simp), wrap_next hlt hl]
theorem any_ev {l : List S26} (hl : l.length ≤ 8796093022208) (t : Int) : Ev (fun k => gristmillref07_Any.f k l t) (anyS l t) := any_loop hl l.length 0 (by omega)
theorem same_loop {l : List S26} (hl : l.length ≤ 8796093022208) : ∀ (n i : Nat), i + n = l.length → Ev (fun k => gristmillref07_Same.l0 k l l (i : Int)) true
  | 0, i, hi => by
    obtain rfl : i = l.length := by omega
    refine Ev.step (f := fun _ => some _) (fun k => ?_) (Ev.now _)
    simp only [gristmillref07_Same.l0]
    rw [if_neg (Int.lt_irrefl _)]
  | n + 1, i, hi => by
    have hlt : i < l.length := by omega
    refine Ev.step (fun k => ?_) (same_loop hl n (i + 1) (by omega))
    simp only [gristmillref07_Same.l0]
    rw [if_pos (by omega), if_pos (by omega), if_pos (by omega), if_neg (by simp), wrap_next hlt hl]
theorem same_ev {l : List S26} (hl : l.length ≤ 8796093022208) : Ev (fun k => gristmillref07_Same.f k l l) true := by
  unfold gristmillref07_Same.f
  simp only [if_true]
  exact same_loop hl l.length 0 (by omega)
end Go.Proofs.Ytabmablgaifidaa.PGrain
