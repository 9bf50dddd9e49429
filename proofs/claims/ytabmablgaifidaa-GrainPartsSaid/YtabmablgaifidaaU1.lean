/- Spans of time over whole numbers, plainly: rows of spans that are as few as may be, their uniqueness; putting together, taking away. No program, no condition. -/
import Derived.Test.YtabmablgaifidaaPGrainx0
namespace Go.Proofs.Ytabmablgaifidaa.PGrain
set_option linter.unusedVariables false
abbrev Span := S26

theorem nil_or_snoc {α : Type} (l : List α) : l = [] ∨ ∃ o x, l = o ++ [x] := by
  rcases List.eq_nil_or_concat l with h | ⟨o, x, h⟩
  · exact .inl h
  · exact .inr ⟨o, x, by rw [h, List.concat_eq_append]⟩
def emptyS (s : Span) : Bool := decide (s.f0 ≥ s.f1)
def holdsS (s : Span) (t : Int) : Bool := decide (s.f0 ≤ t) && decide (t < s.f1)
def meetS (a b : Span) : Span := if max a.f0 b.f0 ≥ min a.f1 b.f1 then ⟨0, 0⟩ else ⟨max a.f0 b.f0, min a.f1 b.f1⟩
def coversS (a b : Span) : Bool := emptyS b || (decide (a.f0 ≤ b.f0) && decide (b.f1 ≤ a.f1))
def anyS (l : List Span) (t : Int) : Bool := l.any fun s => holdsS s t

theorem anyS_iff (l : List Span) (t : Int) : anyS l t = true ↔ ∃ s ∈ l, s.f0 ≤ t ∧ t < s.f1 := by
  simp [anyS, holdsS, List.any_eq_true]
theorem anyS_append (a b : List Span) (t : Int) : anyS (a ++ b) t = (anyS a t || anyS b t) := by simp [anyS]
theorem anyS_nil (t : Int) : anyS [] t = false := rfl
theorem anyS_cons (s : Span) (b : List Span) (t : Int) : anyS (s :: b) t = (holdsS s t || anyS b t) := by simp [anyS]

/-- As few as may be: none is empty, between each two there is a moment that none holds. -/
def Canon (l : List Span) : Prop := (∀ s ∈ l, s.f0 < s.f1) ∧ l.Pairwise (fun a b => a.f1 < b.f0)

theorem Canon.tail {x : Span} {l : List Span} (h : Canon (x :: l)) : Canon l := ⟨fun s hs => h.1 s (List.mem_cons_of_mem _ hs), (List.pairwise_cons.1 h.2).2⟩
theorem Canon.head_lt {x : Span} {l : List Span} (h : Canon (x :: l)) {s : Span} (hs : s ∈ l) : x.f1 < s.f0 := (List.pairwise_cons.1 h.2).1 s hs
theorem Canon.head {x : Span} {l : List Span} (h : Canon (x :: l)) : x.f0 < x.f1 := h.1 x List.mem_cons_self
theorem canon_nil : Canon [] := ⟨fun s hs => (List.not_mem_nil hs).elim, List.Pairwise.nil⟩

theorem canon_least {x : Span} {l : List Span} (h : Canon (x :: l)) {t : Int} (ht : anyS (x :: l) t = true) : x.f0 ≤ t := by
  obtain ⟨s, hs, h1, h2⟩ := (anyS_iff _ _).1 ht
  rcases List.mem_cons.1 hs with rfl | hs
  · exact h1
  · have := h.head_lt hs
    have := h.head
    omega
theorem canon_first {x : Span} {l : List Span} (h : Canon (x :: l)) : anyS (x :: l) x.f0 = true := (anyS_iff _ _).2 ⟨x, List.mem_cons_self, Int.le_refl _, h.head⟩
theorem canon_end {x : Span} {l : List Span} (h : Canon (x :: l)) : anyS (x :: l) x.f1 = false := by
  rw [Bool.eq_false_iff]
  intro hc
  obtain ⟨s, hs, h1, h2⟩ := (anyS_iff _ _).1 hc
  rcases List.mem_cons.1 hs with rfl | hs
  · omega
  · have := h.head_lt hs
    omega
theorem canon_mid {x : Span} {l : List Span} {t : Int} (h1 : x.f0 ≤ t) (h2 : t < x.f1) : anyS (x :: l) t = true := (anyS_iff _ _).2 ⟨x, List.mem_cons_self, h1, h2⟩
theorem canon_rest {x : Span} {l : List Span} (h : Canon (x :: l)) (t : Int) : anyS l t = (anyS (x :: l) t && decide (x.f1 ≤ t)) := by
  rw [Bool.eq_iff_iff, Bool.and_eq_true, decide_eq_true_eq, anyS_iff, anyS_iff]
  constructor
  · rintro ⟨s, hs, h1, h2⟩
    have := h.head_lt hs
    exact ⟨⟨s, List.mem_cons_of_mem _ hs, h1, h2⟩, by omega⟩
  · rintro ⟨⟨s, hs, h1, h2⟩, h3⟩
    rcases List.mem_cons.1 hs with rfl | hs
    · omega
    · exact ⟨s, hs, h1, h2⟩

/-- Two such rows that hold the same moments are the same. -/
theorem canon_unique : ∀ {a b : List Span}, Canon a → Canon b → (∀ t, anyS a t = anyS b t) → a = b
  | [], [], _, _, _ => rfl
  | [], y :: b, _, hb, h => by
    have := canon_first hb
    rw [← h] at this
    simp [anyS] at this
  | x :: a, [], ha, _, h => by
    have := canon_first ha
    rw [h] at this
    simp [anyS] at this
  | x :: a, y :: b, ha, hb, h => by
    have h1 := canon_least ha ((h _).trans (canon_first hb))
    have h2 := canon_least hb ((h _).symm.trans (canon_first ha))
    have hf : x.f0 = y.f0 := by omega
    have h3 : ¬ x.f1 < y.f1 := fun hc => by
      have := (h x.f1).symm.trans (canon_end ha)
      rw [canon_mid (by have := ha.head; omega) hc] at this
      cases this
    have h4 : ¬ y.f1 < x.f1 := fun hc => by
      have := (h y.f1).trans (canon_end hb)
      rw [canon_mid (by have := hb.head; omega) hc] at this
      cases this
    have ht : x.f1 = y.f1 := by omega
    have e : x = y := by cases x; cases y; simp_all
    subst e
    rw [canon_unique ha.tail hb.tail (fun t => by rw [canon_rest ha, canon_rest hb, h])]

/-! ### Putting together -/
/-- One span more, behind a row. -/
def addS (out : List Span) (s : Span) : List Span :=
  match out.getLast? with
  | some l => if s.f0 ≤ l.f1 then out.dropLast ++ [⟨l.f0, max l.f1 s.f1⟩] else out ++ [s]
  | none => [s]
def foldS (out l : List Span) : List Span := l.foldl addS out

theorem addS_nil (s : Span) : addS [] s = [s] := rfl
theorem addS_snoc (o : List Span) (l s : Span) : addS (o ++ [l]) s = if s.f0 ≤ l.f1 then o ++ [⟨l.f0, max l.f1 s.f1⟩] else o ++ [l] ++ [s] := by
  unfold addS
  rw [List.getLast?_concat, List.dropLast_concat]
theorem addS_length (o : List Span) (s : Span) : (addS o s).length ≤ o.length + 1 ∧ o.length ≤ (addS o s).length := by
  rcases nil_or_snoc o with rfl | ⟨o, l, rfl⟩
  · simp [addS_nil]
  · rw [addS_snoc]
    split <;> simp
theorem canon_snoc {o : List Span} {l : Span} (h : Canon o) (hl : l.f0 < l.f1) (hb : ∀ s ∈ o, s.f1 < l.f0) : Canon (o ++ [l]) :=
  ⟨fun s hs => by
    rcases List.mem_append.1 hs with hs | hs
    · exact h.1 s hs
    · rw [List.mem_singleton.1 hs]; exact hl,
   List.pairwise_append.2 ⟨h.2, List.pairwise_singleton _ _, fun a ha b hb' => by rw [List.mem_singleton.1 hb']; exact hb a ha⟩⟩
theorem canon_split {o : List Span} {l : Span} (h : Canon (o ++ [l])) : Canon o ∧ l.f0 < l.f1 ∧ ∀ s ∈ o, s.f1 < l.f0 := by
  obtain ⟨h1, h2⟩ := h
  obtain ⟨h3, _, h4⟩ := List.pairwise_append.1 h2
  exact ⟨⟨fun s hs => h1 s (List.mem_append_left _ hs), h3⟩, h1 l (by simp), fun s hs => h4 s hs l (by simp)⟩

/-- The row is as few as may be, and its last span begins at n or before. -/
def Upto (o : List Span) (n : Int) : Prop := Canon o ∧ ∀ s ∈ o, s.f0 ≤ n
theorem addS_upto {o : List Span} {s : Span} (h : Upto o s.f0) (hs : s.f0 < s.f1) : Upto (addS o s) s.f0 := by
  rcases nil_or_snoc o with rfl | ⟨o, l, rfl⟩
  · rw [addS_nil]
    exact ⟨canon_snoc (o := []) canon_nil hs (fun s hs => (List.not_mem_nil hs).elim), fun x hx => by rw [List.mem_singleton.1 hx]; exact Int.le_refl _⟩
  · rw [addS_snoc]
    obtain ⟨hc, h2⟩ := h
    obtain ⟨h3, h4, h5⟩ := canon_split hc
    have hl := h2 l (by simp)
    split
    · refine ⟨canon_snoc h3 (by show l.f0 < max _ _; omega) h5, fun x hx => ?_⟩
      rcases List.mem_append.1 hx with hx | hx
      · exact h2 x (List.mem_append_left _ hx)
      · rw [List.mem_singleton.1 hx]; exact hl
    · refine ⟨canon_snoc hc hs (fun x hx => ?_), fun x hx => ?_⟩
      · rcases List.mem_append.1 hx with hx | hx
        · have := h5 x hx
          omega
        · rw [List.mem_singleton.1 hx]; omega
      · rcases List.mem_append.1 hx with hx | hx
        · exact h2 x hx
        · rw [List.mem_singleton.1 hx]; exact Int.le_refl _
theorem addS_any {o : List Span} {s : Span} (h : Upto o s.f0) (hs : s.f0 < s.f1) (t : Int) : anyS (addS o s) t = (anyS o t || holdsS s t) := by
  rcases nil_or_snoc o with rfl | ⟨o, l, rfl⟩
  · rw [addS_nil]
    simp [anyS]
  · rw [addS_snoc]
    have hl := h.2 l (by simp)
    have hlt := (canon_split h.1).2.1
    split
    · rw [anyS_append, anyS_append, Bool.or_assoc]
      congr 1
      simp only [anyS, holdsS, List.any_cons, List.any_nil, Bool.or_false]
      rw [Bool.eq_iff_iff]
      simp only [Bool.or_eq_true, Bool.and_eq_true, decide_eq_true_eq]
      omega
    · rw [anyS_append]
      simp [anyS]
theorem Upto.le {o : List Span} {n m : Int} (h : Upto o n) (hm : n ≤ m) : Upto o m := ⟨h.1, fun s hs => Int.le_trans (h.2 s hs) hm⟩
theorem foldS_canon : ∀ (l o : List Span), (∀ s ∈ l, s.f0 < s.f1) → l.Pairwise (fun a b => a.f0 ≤ b.f0) → Canon o → (∀ s ∈ o, ∀ x ∈ l, s.f0 ≤ x.f0) → Canon (foldS o l) ∧ ∀ t, anyS (foldS o l) t = (anyS o t || anyS l t)
  | [], o, _, _, ho, _ => ⟨ho, fun t => by simp [foldS, anyS]⟩
  | x :: l, o, h1, h2, ho, h3 => by
    have hu : Upto o x.f0 := ⟨ho, fun s hs => h3 s hs x List.mem_cons_self⟩
    have hx := h1 x List.mem_cons_self
    obtain ⟨h4, h5⟩ := List.pairwise_cons.1 h2
    obtain ⟨a, b⟩ := foldS_canon l (addS o x) (fun s hs => h1 s (List.mem_cons_of_mem _ hs)) h5 (addS_upto hu hx).1 (fun s hs y hy => Int.le_trans ((addS_upto hu hx).2 s hs) (h4 y hy))
    refine ⟨a, fun t => ?_⟩
    have := b t
    rw [addS_any hu hx, Bool.or_assoc, ← anyS_cons] at this
    exact this
theorem foldS_length : ∀ (l o : List Span), (foldS o l).length ≤ o.length + l.length
  | [], o => Nat.le_refl _
  | x :: l, o => by
    have h1 := foldS_length l (addS o x)
    have h2 := (addS_length o x).1
    have : foldS o (x :: l) = foldS (addS o x) l := rfl
    rw [this, List.length_cons]
    omega

/-! ### Sorting -/
def insS (s : Span) : List Span → List Span
  | [] => [s]
  | x :: l => if s.f0 ≤ x.f0 then s :: x :: l else x :: insS s l
def sortS : List Span → List Span
  | [] => []
  | x :: l => insS x (sortS l)
theorem insS_perm (s : Span) : ∀ l, (insS s l).Perm (s :: l)
  | [] => List.Perm.refl _
  | x :: l => by
    unfold insS
    split
    · exact List.Perm.refl _
    · exact ((insS_perm s l).cons x).trans (List.Perm.swap s x l)
theorem sortS_perm : ∀ l, (sortS l).Perm l
  | [] => List.Perm.refl _
  | x :: l => (insS_perm x (sortS l)).trans ((sortS_perm l).cons x)
theorem insS_sorted (s : Span) : ∀ l, l.Pairwise (fun a b => a.f0 ≤ b.f0) → (insS s l).Pairwise (fun a b => a.f0 ≤ b.f0)
  | [], _ => List.pairwise_singleton _ _
  | x :: l, h => by
    obtain ⟨h1, h2⟩ := List.pairwise_cons.1 h
    unfold insS
    split
    · refine List.pairwise_cons.2 ⟨fun y hy => ?_, h⟩
      rcases List.mem_cons.1 hy with rfl | hy
      · assumption
      · have := h1 y hy
        omega
    · refine List.pairwise_cons.2 ⟨fun y hy => ?_, insS_sorted s l h2⟩
      rcases List.mem_cons.1 ((insS_perm s l).mem_iff.1 hy) with rfl | hy
      · omega
      · exact h1 y hy
theorem sortS_sorted : ∀ l, (sortS l).Pairwise (fun a b => a.f0 ≤ b.f0)
  | [] => List.Pairwise.nil
  | x :: l => insS_sorted x _ (sortS_sorted l)

/-- Spans together. -/
def unionS (l : List Span) : List Span := foldS [] (sortS (l.filter fun s => !emptyS s))
theorem anyS_perm {a b : List Span} (h : a.Perm b) (t : Int) : anyS a t = anyS b t := by
  rw [Bool.eq_iff_iff, anyS_iff, anyS_iff]
  exact ⟨fun ⟨s, hs, r⟩ => ⟨s, h.mem_iff.1 hs, r⟩, fun ⟨s, hs, r⟩ => ⟨s, h.mem_iff.2 hs, r⟩⟩
theorem anyS_filter (l : List Span) (t : Int) : anyS (l.filter fun s => !emptyS s) t = anyS l t := by
  rw [Bool.eq_iff_iff, anyS_iff, anyS_iff]
  constructor
  · rintro ⟨s, hs, r⟩
    exact ⟨s, (List.mem_filter.1 hs).1, r⟩
  · rintro ⟨s, hs, r⟩
    exact ⟨s, List.mem_filter.2 ⟨hs, by simp [emptyS]; omega⟩, r⟩
/-- Whatever sorted row of the spans that aren't empty: put together it is the same. -/
theorem fold_sorted {l d : List Span} (hp : d.Perm (l.filter fun s => !emptyS s)) (hs : d.Pairwise (fun a b => a.f0 ≤ b.f0)) : Canon (foldS [] d) ∧ ∀ t, anyS (foldS [] d) t = anyS l t := by
  have hne : ∀ s ∈ d, s.f0 < s.f1 := fun s hm => by
    have := (List.mem_filter.1 (hp.mem_iff.1 hm)).2
    simp [emptyS] at this
    omega
  obtain ⟨h1, h2⟩ := foldS_canon d [] hne hs canon_nil (fun s hs => (List.not_mem_nil hs).elim)
  refine ⟨h1, fun t => ?_⟩
  rw [h2 t, ← anyS_filter l, anyS_perm hp]
  simp [anyS]
theorem unionS_canon (l : List Span) : Canon (unionS l) := (fold_sorted (sortS_perm _) (sortS_sorted _)).1
theorem unionS_any (l : List Span) (t : Int) : anyS (unionS l) t = anyS l t := (fold_sorted (sortS_perm _) (sortS_sorted _)).2 t
theorem unionS_of {l d : List Span} (hp : d.Perm (l.filter fun s => !emptyS s)) (hs : d.Pairwise (fun a b => a.f0 ≤ b.f0)) : foldS [] d = unionS l :=
  canon_unique (fold_sorted hp hs).1 (unionS_canon l) (fun t => by rw [(fold_sorted hp hs).2, unionS_any])
theorem unionS_length (l : List Span) : (unionS l).length ≤ l.length := by
  have h1 := foldS_length (sortS (l.filter fun s => !emptyS s)) []
  have h2 := (sortS_perm (l.filter fun s => !emptyS s)).length_eq
  have h3 := List.length_filter_le (fun s => !emptyS s) l
  unfold unionS
  simp only [List.length_nil] at h1
  omega

/-! ### Taking away -/
/-- What is left of s, what was laid out; one span more that is taken away. -/
def cutS (p : Span × List Span) (x : Span) : Span × List Span :=
  (⟨max p.1.f0 x.f1, p.1.f1⟩, if p.1.f0 < min p.1.f1 x.f0 then p.2 ++ [⟨p.1.f0, min p.1.f1 x.f0⟩] else p.2)
def cutsS (p : Span × List Span) (l : List Span) : Span × List Span := l.foldl cutS p
def minusU (s : Span) (u : List Span) : List Span :=
  if (cutsS (s, []) u).1.f0 < (cutsS (s, []) u).1.f1 then (cutsS (s, []) u).2 ++ [(cutsS (s, []) u).1] else (cutsS (s, []) u).2
def minusS (s : Span) (l : List Span) : List Span := minusU s (unionS l)

theorem cutS_length (p : Span × List Span) (x : Span) : (cutS p x).2.length ≤ p.2.length + 1 := by
  unfold cutS
  dsimp only
  split <;> simp
theorem cutsS_length : ∀ (l : List Span) (p : Span × List Span), (cutsS p l).2.length ≤ p.2.length + l.length
  | [], p => Nat.le_refl _
  | x :: l, p => by
    have h1 := cutsS_length l (cutS p x)
    have h2 := cutS_length p x
    have : cutsS p (x :: l) = cutsS (cutS p x) l := rfl
    rw [this, List.length_cons]
    omega
theorem minusS_length (s : Span) (l : List Span) : (minusS s l).length ≤ l.length + 1 := by
  have h1 := cutsS_length (unionS l) (s, [])
  have h2 := unionS_length l
  simp only [List.length_nil] at h1
  unfold minusS minusU
  split <;> simp <;> omega
/-- What was laid out so far: of what s holds the moments before u's end that u's spans don't hold. -/
theorem cuts_any : ∀ (u : List Span) (s : Span) (o : List Span), Canon u → Canon o → (∀ y ∈ o, y.f1 ≤ s.f0) → (∀ y ∈ o, ∀ x ∈ u, y.f1 < x.f1) → (∀ y ∈ o, s.f0 ≤ y.f1 → ∀ x ∈ u, True) →
    (∀ y ∈ o, y.f1 < s.f0) →
    Canon (cutsS (s, o) u).2 ∧ (∀ y ∈ (cutsS (s, o) u).2, y.f1 < (cutsS (s, o) u).1.f0) ∧ (cutsS (s, o) u).1.f1 = s.f1 ∧
      ∀ t, (anyS (cutsS (s, o) u).2 t || holdsS (cutsS (s, o) u).1 t) = (anyS o t || (holdsS s t && !anyS u t))
  | [], s, o, _, ho, _, _, _, h4 => ⟨ho, h4, rfl, fun t => by simp [cutsS, anyS]⟩
  | x :: u, s, o, hu, ho, h1, h2, h3, h4 => by
    have hx := hu.head
    have e : cutsS (s, o) (x :: u) = cutsS (cutS (s, o) x) u := rfl
    rw [e]
    unfold cutS
    dsimp only
    by_cases hc : s.f0 < min s.f1 x.f0
    · rw [if_pos hc]
      have hco : Canon (o ++ [⟨s.f0, min s.f1 x.f0⟩]) := canon_snoc ho hc (fun y hy => h4 y hy)
      have hlt : ∀ y ∈ o ++ [(⟨s.f0, min s.f1 x.f0⟩ : Span)], y.f1 < max s.f0 x.f1 := fun y hy => by
        rcases List.mem_append.1 hy with hy | hy
        · have := h4 y hy
          omega
        · rw [List.mem_singleton.1 hy]
          show min _ _ < _
          omega
      obtain ⟨a, b, c, d⟩ := cuts_any u ⟨max s.f0 x.f1, s.f1⟩ _ hu.tail hco (fun y hy => Int.le_of_lt (hlt y hy)) (fun y hy z hz => by
        have h5 := hu.head_lt hz
        have h6 := hu.1 z (List.mem_cons_of_mem _ hz)
        rcases List.mem_append.1 hy with hy | hy
        · exact h2 y hy z (List.mem_cons_of_mem _ hz)
        · rw [List.mem_singleton.1 hy]
          show min _ _ < _
          omega) (fun _ _ _ _ _ => trivial) hlt
      refine ⟨a, b, c, fun t => ?_⟩
      rw [d t, anyS_append, Bool.or_assoc]
      congr 1
      rw [Bool.eq_iff_iff]
      simp only [anyS_cons, anyS_nil]
      cases hau : anyS u t with
      | false =>
        simp only [holdsS, Bool.or_false, Bool.or_eq_true, Bool.and_eq_true, decide_eq_true_eq, Bool.not_eq_true', Bool.and_eq_false_iff, decide_eq_false_iff_not, Bool.not_false, and_true]
        omega
      | true =>
        obtain ⟨z, hz, hz1, hz2⟩ := (anyS_iff _ _).1 hau
        have := hu.head_lt hz
        simp only [holdsS, Bool.or_false, Bool.or_eq_true, Bool.and_eq_true, decide_eq_true_eq, Bool.or_true, Bool.not_true, and_false, or_false, iff_false, Bool.false_eq_true]
        omega
    · rw [if_neg hc]
      obtain ⟨a, b, c, d⟩ := cuts_any u ⟨max s.f0 x.f1, s.f1⟩ o hu.tail ho (fun y hy => by have := h1 y hy; show _ ≤ max _ _; omega) (fun y hy z hz => h2 y hy z (List.mem_cons_of_mem _ hz)) (fun _ _ _ _ _ => trivial) (fun y hy => by have := h4 y hy; show _ < max _ _; omega)
      refine ⟨a, b, c, fun t => ?_⟩
      rw [d t, anyS_cons]
      congr 1
      rw [Bool.eq_iff_iff]
      cases hau : anyS u t with
      | false =>
        simp only [holdsS, Bool.or_false, Bool.and_eq_true, decide_eq_true_eq, Bool.not_eq_true', Bool.and_eq_false_iff, decide_eq_false_iff_not, Bool.not_false, and_true]
        omega
      | true => simp
theorem minusU_canon (s : Span) {u : List Span} (hu : Canon u) : Canon (minusU s u) ∧ ∀ t, anyS (minusU s u) t = (holdsS s t && !anyS u t) := by
  obtain ⟨a, b, c, d⟩ := cuts_any u s [] hu canon_nil (fun _ h => (List.not_mem_nil h).elim) (fun _ h => (List.not_mem_nil h).elim) (fun _ h => (List.not_mem_nil h).elim) (fun _ h => (List.not_mem_nil h).elim)
  unfold minusU
  split
  · refine ⟨canon_snoc a (by assumption) b, fun t => ?_⟩
    have := d t
    rw [anyS_append, anyS_cons]
    simpa [anyS] using this
  · rename_i hc
    refine ⟨a, fun t => ?_⟩
    have := d t
    have h0 : holdsS (cutsS (s, []) u).1 t = false := by
      simp only [holdsS, Bool.and_eq_false_iff, decide_eq_false_iff_not]
      omega
    rw [h0, Bool.or_false] at this
    simpa [anyS] using this
theorem minusS_canon (s : Span) (l : List Span) : Canon (minusS s l) := (minusU_canon s (unionS_canon l)).1
theorem minusS_any (s : Span) (l : List Span) (t : Int) : anyS (minusS s l) t = (holdsS s t && !anyS l t) := by
  rw [minusS, (minusU_canon s (unionS_canon l)).2, unionS_any]
end Go.Proofs.Ytabmablgaifidaa.PGrain
