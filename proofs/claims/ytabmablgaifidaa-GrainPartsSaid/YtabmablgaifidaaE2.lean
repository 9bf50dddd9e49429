/- The reference's Parts, plainly: as few spans as may be, holding what some of a hold and none of b. No condition. -/
import Derived.Test.YtabmablgaifidaaU3
namespace Go.Proofs.Ytabmablgaifidaa.PGrain
set_option linter.unusedVariables false

def putS (n : Int) : List Int → List Int
  | [] => [n]
  | x :: r => if x < n then x :: putS n r else if x = n then x :: r else n :: x :: r
theorem mem_putS (n y : Int) : ∀ l, y ∈ putS n l ↔ y = n ∨ y ∈ l
  | [] => by simp [putS]
  | x :: r => by
    unfold putS
    split
    · rw [List.mem_cons, mem_putS n y r, List.mem_cons]
      constructor
      · rintro (h | h | h)
        · exact .inr (.inl h)
        · exact .inl h
        · exact .inr (.inr h)
      · rintro (h | h | h)
        · exact .inr (.inl h)
        · exact .inl h
        · exact .inr (.inr h)
    · split
      · rename_i h
        subst h
        simp
      · simp
theorem putS_sorted (n : Int) : ∀ l, l.Pairwise (· < ·) → (putS n l).Pairwise (· < ·)
  | [], _ => List.pairwise_singleton _ _
  | x :: r, h => by
    obtain ⟨h1, h2⟩ := List.pairwise_cons.1 h
    unfold putS
    split
    · refine List.pairwise_cons.2 ⟨fun y hy => ?_, putS_sorted n r h2⟩
      rcases (mem_putS n y r).1 hy with rfl | hy
      · assumption
      · exact h1 y hy
    · split
      · exact h
      · refine List.pairwise_cons.2 ⟨fun y hy => ?_, h⟩
        rcases List.mem_cons.1 hy with rfl | hy
        · omega
        · have := h1 y hy
          omega
theorem putS_length (n : Int) : ∀ l, (putS n l).length ≤ l.length + 1
  | [] => Nat.le_refl _
  | x :: r => by
    have := putS_length n r
    unfold putS
    split
    · simp; omega
    · split <;> simp
def edgeS (acc : List Int) (s : S26) : List Int := putS s.f1 (putS s.f0 acc)
def edgesF (acc : List Int) (l : List S26) : List Int := l.foldl edgeS acc
def edgesS (l : List S26) : List Int := edgesF [] l
theorem edges_mem (y : Int) : ∀ (l : List S26) (acc : List Int), y ∈ edgesF acc l ↔ y ∈ acc ∨ ∃ s ∈ l, y = s.f0 ∨ y = s.f1
  | [], acc => by simp [edgesF]
  | s :: l, acc => by
    have e : edgesF acc (s :: l) = edgesF (edgeS acc s) l := rfl
    rw [e, edges_mem y l, edgeS, mem_putS, mem_putS]
    constructor
    · rintro ((h | h | h) | ⟨z, hz, h⟩)
      · exact .inr ⟨s, List.mem_cons_self, .inr h⟩
      · exact .inr ⟨s, List.mem_cons_self, .inl h⟩
      · exact .inl h
      · exact .inr ⟨z, List.mem_cons_of_mem _ hz, h⟩
    · rintro (h | ⟨z, hz, h⟩)
      · exact .inl (.inr (.inr h))
      · rcases List.mem_cons.1 hz with rfl | hz
        · rcases h with h | h
          · exact .inl (.inr (.inl h))
          · exact .inl (.inl h)
        · exact .inr ⟨z, hz, h⟩
theorem edges_sorted : ∀ (l : List S26) (acc : List Int), acc.Pairwise (· < ·) → (edgesF acc l).Pairwise (· < ·)
  | [], acc, h => h
  | s :: l, acc, h => edges_sorted l (edgeS acc s) (putS_sorted _ _ (putS_sorted _ _ h))
theorem edges_length : ∀ (l : List S26) (acc : List Int), (edgesF acc l).length ≤ acc.length + 2 * l.length
  | [], acc => Nat.le_refl _
  | s :: l, acc => by
    have h1 := edges_length l (edgeS acc s)
    have h2 := putS_length s.f1 (putS s.f0 acc)
    have h3 := putS_length s.f0 acc
    have e : edgesF acc (s :: l) = edgesF (edgeS acc s) l := rfl
    have e2 : edgeS acc s = putS s.f1 (putS s.f0 acc) := rfl
    rw [e, List.length_cons]
    rw [e2] at h1 ⊢
    omega

def joinS (out : List S26) (x y : Int) : List S26 := match out.getLast? with
  | some l => if l.f1 = x then out.dropLast ++ [⟨l.f0, y⟩] else out ++ [⟨x, y⟩]
  | none => [⟨x, y⟩]
theorem joinS_snoc (o : List S26) (l : S26) (x y : Int) : joinS (o ++ [l]) x y = if l.f1 = x then o ++ [⟨l.f0, y⟩] else o ++ [l] ++ [⟨x, y⟩] := by
  unfold joinS
  rw [List.getLast?_concat, List.dropLast_concat]
theorem joinS_length (o : List S26) (x y : Int) : (joinS o x y).length ≤ o.length + 1 := by
  rcases nil_or_snoc o with rfl | ⟨o, l, rfl⟩
  · simp [joinS]
  · rw [joinS_snoc]
    split <;> simp
def partsL (a b : List S26) : List Int → List S26 → List S26
  | [], out => out
  | [_], out => out
  | x :: y :: r, out => partsL a b (y :: r) (if anyS a x && !anyS b x then joinS out x y else out)
def partsS (a b : List S26) : List S26 := partsL a b (edgesS (a ++ b)) []

theorem joinS_ok {out : List S26} {x y : Int} (ho : Canon out) (hx : ∀ s ∈ out, s.f1 ≤ x) (hxy : x < y) :
    Canon (joinS out x y) ∧ (∀ s ∈ joinS out x y, s.f1 ≤ y) ∧ ∀ t, anyS (joinS out x y) t = (anyS out t || (decide (x ≤ t) && decide (t < y))) := by
  rcases nil_or_snoc out with rfl | ⟨o, l, rfl⟩
  · refine ⟨canon_snoc (o := []) canon_nil hxy (fun s hs => (List.not_mem_nil hs).elim), fun s hs => ?_, fun t => by simp [joinS, anyS, holdsS]⟩
    have : s = ⟨x, y⟩ := by simpa [joinS] using hs
    subst this
    exact Int.le_refl _
  · obtain ⟨h1, h2, h3⟩ := canon_split ho
    have hl := hx l (by simp)
    rw [joinS_snoc]
    split
    · rename_i e
      refine ⟨canon_snoc h1 (by show l.f0 < y; omega) h3, fun s hs => ?_, fun t => ?_⟩
      · rcases List.mem_append.1 hs with hs | hs
        · have := hx s (List.mem_append_left _ hs)
          omega
        · rw [List.mem_singleton.1 hs]; exact Int.le_refl _
      · rw [anyS_append, anyS_append, Bool.or_assoc]
        congr 1
        simp only [anyS_cons, anyS_nil, holdsS, Bool.or_false]
        rw [Bool.eq_iff_iff]
        simp only [Bool.or_eq_true, Bool.and_eq_true, decide_eq_true_eq]
        omega
    · rename_i e
      refine ⟨canon_snoc ho hxy (fun s hs => ?_), fun s hs => ?_, fun t => ?_⟩
      · rcases List.mem_append.1 hs with hs | hs
        · have := h3 s hs
          show s.f1 < x
          omega
        · rw [List.mem_singleton.1 hs]
          show l.f1 < x
          omega
      · rcases List.mem_append.1 hs with hs | hs
        · have := hx s hs
          omega
        · rw [List.mem_singleton.1 hs]; exact Int.le_refl _
      · rw [anyS_append]
        simp [anyS_cons, anyS_nil, holdsS]
/-- Between two edges that stand side by side nothing changes. -/
theorem any_flat {l : List S26} {e : List Int} {x y t : Int} (he : ∀ s ∈ l, (x < s.f0 → y ≤ s.f0) ∧ (x < s.f1 → y ≤ s.f1)) (h1 : x ≤ t) (h2 : t < y) : anyS l t = anyS l x := by
  rw [Bool.eq_iff_iff, anyS_iff, anyS_iff]
  constructor
  · rintro ⟨s, hs, a, b⟩
    have := he s hs
    exact ⟨s, hs, by omega, by omega⟩
  · rintro ⟨s, hs, a, b⟩
    have := he s hs
    exact ⟨s, hs, by omega, by omega⟩
theorem any_past {l : List S26} {x t : Int} (he : ∀ s ∈ l, s.f1 ≤ x) (h1 : x ≤ t) : anyS l t = false := by
  rw [Bool.eq_false_iff]
  intro hc
  obtain ⟨s, hs, a, b⟩ := (anyS_iff _ _).1 hc
  have := he s hs
  omega
theorem any_ahead {l : List S26} {x t : Int} (he : ∀ s ∈ l, x ≤ s.f0) (h1 : t < x) : anyS l t = false := by
  rw [Bool.eq_false_iff]
  intro hc
  obtain ⟨s, hs, a, b⟩ := (anyS_iff _ _).1 hc
  have := he s hs
  omega
theorem parts_ok (a b : List S26) : ∀ (e : List Int) (x : Int) (out : List S26), (x :: e).Pairwise (· < ·) → (∀ s ∈ a ++ b, (x < s.f0 → s.f0 ∈ e) ∧ (x < s.f1 → s.f1 ∈ e)) → Canon out → (∀ s ∈ out, s.f1 ≤ x) →
    Canon (partsL a b (x :: e) out) ∧ ∀ t, anyS (partsL a b (x :: e) out) t = (anyS out t || (decide (x ≤ t) && (anyS a t && !anyS b t)))
  | [], x, out, hs, he, ho, hx => by
    refine ⟨ho, fun t => ?_⟩
    show anyS out t = _
    by_cases h : x ≤ t
    · have : anyS a t = false := any_past (x := x) (fun s hs => by
        have := (he s (List.mem_append_left _ hs)).2
        rcases Int.lt_or_le x s.f1 with h | h
        · exact absurd (this h) (by simp)
        · exact h) h
      rw [this]; simp
    · simp [h]
  | y :: e, x, out, hs, he, ho, hx => by
    obtain ⟨h1, h2⟩ := List.pairwise_cons.1 hs
    obtain ⟨h3, h4⟩ := List.pairwise_cons.1 h2
    have hxy := h1 y List.mem_cons_self
    have hle : ∀ n ∈ y :: e, y ≤ n := fun n hn => by
      rcases List.mem_cons.1 hn with rfl | hn
      · exact Int.le_refl _
      · exact Int.le_of_lt (h3 n hn)
    have hfl : ∀ s ∈ a ++ b, (x < s.f0 → y ≤ s.f0) ∧ (x < s.f1 → y ≤ s.f1) := fun s hs => ⟨fun h => hle _ ((he s hs).1 h), fun h => hle _ ((he s hs).2 h)⟩
    have hnext : ∀ s ∈ a ++ b, (y < s.f0 → s.f0 ∈ e) ∧ (y < s.f1 → s.f1 ∈ e) := fun s hs => by
      refine ⟨fun h => ?_, fun h => ?_⟩
      · rcases List.mem_cons.1 ((he s hs).1 (by omega)) with h' | h'
        · omega
        · exact h'
      · rcases List.mem_cons.1 ((he s hs).2 (by omega)) with h' | h'
        · omega
        · exact h'
    have fa : ∀ t, x ≤ t → t < y → anyS a t = anyS a x := fun t p q => any_flat (e := e) (fun s hs => hfl s (List.mem_append_left _ hs)) p q
    have fb : ∀ t, x ≤ t → t < y → anyS b t = anyS b x := fun t p q => any_flat (e := e) (fun s hs => hfl s (List.mem_append_right _ hs)) p q
    show Canon (partsL a b (y :: e) (if anyS a x && !anyS b x then joinS out x y else out)) ∧ ∀ t, anyS (partsL a b (y :: e) (if anyS a x && !anyS b x then joinS out x y else out)) t = _
    cases hc : (anyS a x && !anyS b x) with
    | true =>
      rw [if_pos rfl]
      obtain ⟨j1, j2, j3⟩ := joinS_ok ho hx hxy
      obtain ⟨r1, r2⟩ := parts_ok a b e y _ h2 hnext j1 j2
      refine ⟨r1, fun t => ?_⟩
      rw [r2 t, j3 t, Bool.or_assoc]
      congr 1
      by_cases p : x ≤ t
      · by_cases q : t < y
        · rw [fa t p q, fb t p q, hc]; simp [p, q]
        · have : y ≤ t := by omega
          simp [p, q, this]
      · have : ¬ y ≤ t := by omega
        simp [p, this]
    | false =>
      rw [if_neg (by simp)]
      obtain ⟨r1, r2⟩ := parts_ok a b e y out h2 hnext ho (fun s hs => by have := hx s hs; omega)
      refine ⟨r1, fun t => ?_⟩
      rw [r2 t]
      congr 1
      by_cases p : x ≤ t
      · by_cases q : t < y
        · have : ¬ y ≤ t := by omega
          rw [fa t p q, fb t p q, hc]; simp [p, this]
        · have : y ≤ t := by omega
          simp [p, this]
      · have : ¬ y ≤ t := by omega
        simp [p, this]
theorem parts_spec (a b : List S26) : Canon (partsS a b) ∧ ∀ t, anyS (partsS a b) t = (anyS a t && !anyS b t) := by
  have hs := edges_sorted (a ++ b) [] List.Pairwise.nil
  have hm := fun y => edges_mem y (a ++ b) []
  unfold partsS edgesS
  cases he : edgesF [] (a ++ b) with
  | nil =>
    rw [he] at hm
    have hnil : a ++ b = [] := by
      rcases hab : a ++ b with _ | ⟨s, r⟩
      · rfl
      · rw [hab] at hm
        exact absurd ((hm s.f0).2 (.inr ⟨s, List.mem_cons_self, .inl rfl⟩)) (by simp)
    obtain ⟨rfl, rfl⟩ := List.append_eq_nil_iff.1 hnil
    exact ⟨canon_nil, fun t => rfl⟩
  | cons x e =>
    rw [he] at hs hm
    have hin : ∀ s ∈ a ++ b, s.f0 ∈ x :: e ∧ s.f1 ∈ x :: e := fun s hs => ⟨(hm _).2 (.inr ⟨s, hs, .inl rfl⟩), (hm _).2 (.inr ⟨s, hs, .inr rfl⟩)⟩
    have hge : ∀ n ∈ x :: e, x ≤ n := fun n hn => by
      rcases List.mem_cons.1 hn with rfl | hn
      · exact Int.le_refl _
      · exact Int.le_of_lt ((List.pairwise_cons.1 hs).1 n hn)
    obtain ⟨r1, r2⟩ := parts_ok a b e x [] hs (fun s hs => by
      obtain ⟨p, q⟩ := hin s hs
      refine ⟨fun h => ?_, fun h => ?_⟩
      · rcases List.mem_cons.1 p with h' | h'
        · omega
        · exact h'
      · rcases List.mem_cons.1 q with h' | h'
        · omega
        · exact h') canon_nil (fun s hs => (List.not_mem_nil hs).elim)
    refine ⟨r1, fun t => ?_⟩
    rw [r2 t]
    by_cases p : x ≤ t
    · simp [p, anyS_nil]
    · have : anyS a t = false := any_ahead (x := x) (fun s hs => hge _ (hin s (List.mem_append_left _ hs)).1) (by omega)
      simp [p, this, anyS_nil]
theorem partsL_length (a b : List S26) : ∀ (e : List Int) (out : List S26), (partsL a b e out).length ≤ out.length + e.length
  | [], out => Nat.le_refl _
  | [_], out => Nat.le_succ _
  | x :: y :: r, out => by
    have h1 := partsL_length a b (y :: r) (if anyS a x && !anyS b x then joinS out x y else out)
    have h2 := joinS_length out x y
    have e : partsL a b (x :: y :: r) out = partsL a b (y :: r) (if anyS a x && !anyS b x then joinS out x y else out) := rfl
    rw [e]
    simp only [List.length_cons] at h1 ⊢
    split at h1 <;> rename_i hc
    · rw [if_pos hc]; omega
    · rw [if_neg hc]; omega
theorem partsS_length (a b : List S26) : (partsS a b).length ≤ 2 * (a.length + b.length) := by
  have h1 := partsL_length a b (edgesS (a ++ b)) []
  have h2 := edges_length (a ++ b) []
  rw [List.length_append] at h2
  unfold partsS
  unfold edgesS at h1 ⊢
  simp only [List.length_nil] at h1 h2
  omega
end Go.Proofs.Ytabmablgaifidaa.PGrain
