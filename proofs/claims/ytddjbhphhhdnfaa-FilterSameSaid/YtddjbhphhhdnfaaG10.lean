/- What turning a filter does to its depth, to its parts and to what it holds of: plain laws. No program. -/
import Derived.Test.YtddjbhphhhdnfaaG4
import Derived.Test.YtddjbhphhhdnfaaG9
namespace Go.Proofs.Ytddjbhphhhdnfaa.K
open Go.RowKit
set_option linter.unusedVariables false
set_option linter.unusedSimpArgs false

theorem by_ht {p : Filter → Prop} (h : ∀ x, (∀ k ∈ kidsOf x, p k) → p x) : ∀ x, p x := by
  have key : ∀ n x, ht x ≤ n → p x := by
    intro n
    induction n with
    | zero => intro x hx; rw [ht_eq] at hx; omega
    | succ n ih => exact fun x hx => h x (fun k hk => ih k (by have := ht_kid hk; omega))
  exact fun x => key _ x (Nat.le_refl _)
/-- All parts may be, by themselves. -/
def allP (D M : Int) (x : Filter) : Bool := allF (fun y _ => partOf D M y) x 0
theorem allF_const (p : Filter → Bool) : ∀ x, ∀ d e : Int, allF (fun y _ => p y) x d = allF (fun y _ => p y) x e := by
  refine by_ht fun x ih d e => ?_
  rw [allF_eq, allF_eq _ x e]
  congr 1
  rw [Bool.eq_iff_iff, List.all_eq_true, List.all_eq_true]
  exact ⟨fun h k hk => by rw [ih k hk (e + 1) (d + 1)]; exact h k hk, fun h k hk => by rw [ih k hk (d + 1) (e + 1)]; exact h k hk⟩
theorem allP_eq (D M : Int) (x : Filter) : allP D M x = (partOf D M x && (kidsOf x).all (allP D M)) := by
  unfold allP
  rw [allF_eq]
  congr 1
  rw [Bool.eq_iff_iff, List.all_eq_true, List.all_eq_true]
  exact ⟨fun h k hk => by rw [allF_const _ k 0 (0 + 1)]; exact h k hk, fun h k hk => by rw [allF_const _ k (0 + 1) 0]; exact h k hk⟩
theorem allP_iff (D M : Int) (x : Filter) : allP D M x = true ↔ partOf D M x = true ∧ ∀ k ∈ kidsOf x, allP D M k = true := by
  rw [allP_eq, Bool.and_eq_true, List.all_eq_true]
theorem depth_pos (x : Filter) : 1 ≤ depthF x := by rw [depthF_eq]; omega
theorem depth_le {x : Filter} {n : Nat} : depthF x ≤ n + 1 ↔ ∀ k ∈ kidsOf x, depthF k ≤ n := by
  rw [depthF_eq, Nat.add_le_add_iff_right, maxL_le]
  simp
/-- Where a part is fine and not too deep: all parts may be, and the depth is not too great. -/
theorem fine_iff (D M : Int) : ∀ x, ∀ d : Int, allF (fineC D M) x d = true ↔ allP D M x = true ∧ d + depthF x ≤ 21 := by
  refine by_ht fun x ih d => ?_
  rw [allF_eq, Bool.and_eq_true, List.all_eq_true, allP_iff, fineC, Bool.and_eq_true, decide_eq_true_eq]
  constructor
  · rintro ⟨⟨hd, hp⟩, hk⟩
    refine ⟨⟨hp, fun k h => ((ih k h (d + 1)).1 (hk k h)).1⟩, ?_⟩
    have h2 : depthF x ≤ (20 - d).toNat + 1 := depth_le.2 fun k h => by have := ((ih k h (d + 1)).1 (hk k h)).2; omega
    omega
  · rintro ⟨⟨hp, hk⟩, hd⟩
    have := depth_pos x
    refine ⟨⟨by omega, hp⟩, fun k h => (ih k h (d + 1)).2 ⟨hk k h, ?_⟩⟩
    have h2 : depthF k ≤ depthF x - 1 := by
      have h3 : depthF x ≤ (depthF x - 1) + 1 := by omega
      exact depth_le.1 h3 k h
    omega
theorem ok_iff (D M : Int) (x : Filter) : okF D M x = true ↔ size x ≤ 200 ∧ allP D M x = true ∧ depthF x ≤ 20 := by
  unfold okF
  rw [Bool.and_eq_true, decide_eq_true_eq, fine_iff]
  constructor
  · rintro ⟨h1, h2, h3⟩; exact ⟨h1, h2, by omega⟩
  · rintro ⟨h1, h2, h3⟩; exact ⟨h1, h2, by omega⟩
theorem sizeF_le {x : Filter} : sizeF x ≤ 200 ↔ size x ≤ 200 := by
  unfold sizeF
  by_cases h : size x ≤ 200
  · rw [if_pos h]; exact ⟨fun _ => h, fun _ => by omega⟩
  · rw [if_neg h]; exact ⟨fun h2 => absurd h2 (by decide), fun h2 => absurd h2 h⟩
theorem sizes_mem {k : Filter} : ∀ {ks : List Filter}, k ∈ ks → size k ≤ sizes ks
  | [], h => by cases h
  | a :: ks, h => by
    have : sizes (a :: ks) = size a + sizes ks := by simp [sizes]
    rw [this]
    rcases List.mem_cons.1 h with rfl | h
    · omega
    · have := sizes_mem h; omega
theorem kids_bare (x : Filter) : kidsOf (bareF x) = [] := by
  unfold bareF
  split
  · simp [kidsOf]
  · split <;> simp [kidsOf]
theorem kind_bare (x : Filter) : (bareF x).Kind = x.Kind := by
  unfold bareF
  split
  · rfl
  · split <;> rfl
theorem depth_bare (x : Filter) : depthF (bareF x) = 1 := by rw [depthF_eq, kids_bare]; rfl
theorem kids_34 (k : Int) (h : k = 3 ∨ k = 4) (ys : List Filter) : kidsOf ⟨k, 0, [], 0, 0, ys⟩ = ys := by
  have h2 : ¬ k = 2 := by omega
  simp only [kidsOf, if_neg h2, if_pos h]
theorem kids_not (y : Filter) : kidsOf ⟨2, 0, [], 0, 0, [y]⟩ = [y] := by simp [kidsOf]
theorem size_kid {x k : Filter} (h : k ∈ kidsOf x) : size k < size x := by
  rw [size_eq x]
  have : size k ≤ sizes (kidsOf x) := sizes_mem h
  omega

theorem turn_depth : ∀ x, ∀ b, depthF (turnF b x) ≤ depthF x + (if b then 1 else 0) := by
  refine by_ht fun x ih b => ?_
  have h1 := depth_pos x
  have hk : ∀ k ∈ kidsOf x, depthF k + 1 ≤ depthF x := fun k h => by
    have h3 : depthF x ≤ (depthF x - 1) + 1 := by omega
    have := depth_le.1 h3 k h
    omega
  have hleaf : depthF (if b then ⟨2, 0, [], 0, 0, [bareF x]⟩ else bareF x) ≤ depthF x + (if b then 1 else 0) := by
    cases b with
    | true =>
      simp only [if_true]
      rw [depthF_eq, kids_not]
      have : maxL (List.map depthF [bareF x]) = max (depthF (bareF x)) 0 := rfl
      rw [this, depth_bare]
      omega
    | false => simp only [Bool.false_eq_true, if_false]; rw [depth_bare]; omega
  rw [turnF_eq]
  split
  · have : depthF zFilter = 1 := by rw [depthF_eq]; simp [zFilter, kidsOf, maxL]
    rw [this]; omega
  split
  · cases hx : kidsOf x with
    | nil => exact hleaf
    | cons y ys =>
      show depthF (turnF (!b) y) ≤ _
      have h2 := ih y (by rw [hx]; simp) (!b)
      have h3 := hk y (by rw [hx]; simp)
      cases b <;> simp at h2 ⊢ <;> omega
  split
  · rename_i h34
    rw [depthF_eq, kids_34 _ (by split <;> omega)]
    have : maxL (List.map depthF (List.map (turnF b) (kidsOf x))) ≤ depthF x - 1 + (if b then 1 else 0) := by
      rw [maxL_le]
      intro n hn
      simp only [List.mem_map] at hn
      obtain ⟨_, ⟨k, h, rfl⟩, rfl⟩ := hn
      have := ih k h b
      have := hk k h
      omega
    omega
  · exact hleaf

theorem part_bare {D M : Int} {x : Filter} (h : partOf D M x = true) (h2 : ¬ x.Kind = 2) : partOf D M (bareF x) = true := by
  unfold partOf at h ⊢
  rw [kind_bare]
  rw [if_neg h2] at h ⊢
  split at h
  · rename_i hk; rw [if_pos hk]
  · rename_i hk
    rw [if_neg hk]
    split at h
    · rename_i h8
      rw [if_pos h8]
      unfold bareF
      rw [if_neg (by omega), if_pos h8]
      exact h
    · rename_i h8
      rw [if_neg h8]
      split at h
      · rename_i h5
        rw [if_pos h5]
        unfold bareF
        rw [if_pos h5]
        exact h
      · cases h
theorem allP_leaf {D M : Int} {x : Filter} (h : partOf D M x = true) (h2 : ¬ x.Kind = 2) : allP D M (bareF x) = true := by
  rw [allP_iff, kids_bare]
  exact ⟨part_bare h h2, fun k hk => by cases hk⟩
theorem kid_2 {D M : Int} {x : Filter} (h : partOf D M x = true) (h2 : x.Kind = 2) : ∃ y, kidsOf x = [y] := by
  unfold partOf at h
  rw [if_pos h2, decide_eq_true_eq] at h
  obtain ⟨y, hy⟩ : ∃ y, x.Kids = [y] := List.length_eq_one_iff.1 (by omega)
  exact ⟨y, by rw [kidsOf, if_pos h2, hy]; rfl⟩
theorem allP_not {D M : Int} {y : Filter} (h : allP D M y = true) : allP D M ⟨2, 0, [], 0, 0, [y]⟩ = true := by
  rw [allP_iff, kids_not]
  exact ⟨by simp [partOf], fun k hk => by rw [List.mem_singleton.1 hk]; exact h⟩

theorem turn_allP (D M : Int) : ∀ x, size x ≤ 200 → allP D M x = true → ∀ b, allP D M (turnF b x) = true := by
  refine by_ht fun x ih hs hp b => ?_
  obtain ⟨hp1, hpk⟩ := (allP_iff D M x).1 hp
  rw [turnF_eq, if_neg (by rintro ⟨_, h⟩; exact absurd (sizeF_le.2 hs) (by omega))]
  split
  · rename_i h2
    obtain ⟨y, hy⟩ := kid_2 hp1 h2
    rw [hy]
    have hm : y ∈ kidsOf x := by rw [hy]; simp
    exact ih y hm (by have := size_kid hm; omega) (hpk y hm) (!b)
  · rename_i h2
    split
    · rename_i h34
      rw [allP_iff, kids_34 _ (by split <;> omega)]
      refine ⟨?_, fun k hk => ?_⟩
      · unfold partOf
        cases b <;> simp <;> rcases h34 with h | h <;> simp [h]
      · obtain ⟨k', hm, rfl⟩ := List.mem_map.1 hk
        exact ih k' hm (by have := size_kid hm; omega) (hpk k' hm) b
    · cases b with
      | true => exact allP_not (allP_leaf hp1 h2)
      | false => exact allP_leaf hp1 h2
theorem leaf_bare (ft : Fact) (x : Filter) : leafH ft (bareF x) = leafH ft x := by
  by_cases h5 : x.Kind = 5 ∨ x.Kind = 6 ∨ x.Kind = 7
  · unfold bareF
    rw [if_pos h5]
    have h8 : ¬ x.Kind = 8 := by omega
    unfold leafH
    simp only [if_neg h8]
  · by_cases h8 : x.Kind = 8
    · unfold bareF
      rw [if_neg h5, if_pos h8]
      unfold leafH
      simp only [h8]
      simp
    · have key : ∀ y : Filter, y.Kind = x.Kind → leafH ft y = false := by
        intro y hy
        unfold leafH
        rw [hy, if_neg h8]
        split
        · rfl
        · rw [if_neg (by omega), if_neg (by omega), if_neg (by omega)]
      rw [key _ (kind_bare x), key x rfl]
theorem holds_bare (ft : Fact) (x : Filter) (h2 : ¬ x.Kind = 2) (h34 : ¬ (x.Kind = 3 ∨ x.Kind = 4)) : holdsF ft (bareF x) = holdsF ft x := by
  rw [holdsF_eq, holdsF_eq ft x, kind_bare]
  split
  · rfl
  · have h3 : ¬ x.Kind = 3 := by omega
    have h4 : ¬ x.Kind = 4 := by omega
    simp only [if_neg h2, if_neg h3, if_neg h4, leaf_bare]
theorem holds_not (ft : Fact) (y : Filter) : holdsF ft ⟨2, 0, [], 0, 0, [y]⟩ = !holdsF ft y := by
  rw [holdsF_eq, kids_not]; simp
theorem holds_2 (ft : Fact) {x y : Filter} (h2 : x.Kind = 2) (hy : kidsOf x = [y]) : holdsF ft x = !holdsF ft y := by
  rw [holdsF_eq, if_neg (by omega), if_pos h2, hy]; simp
theorem holds_3 (ft : Fact) (x : Filter) (h : x.Kind = 3) : holdsF ft x = (kidsOf x).all (holdsF ft) := by
  rw [holdsF_eq, if_neg (by omega), if_neg (by omega), if_pos h]
theorem holds_4 (ft : Fact) (x : Filter) (h : x.Kind = 4) : holdsF ft x = (kidsOf x).any (holdsF ft) := by
  rw [holdsF_eq, if_neg (by omega), if_neg (by omega), if_neg (by omega), if_pos h]
theorem all_map {ks : List Filter} {f : Filter → Filter} {p q : Filter → Bool} (h : ∀ k ∈ ks, p (f k) = q k) : (ks.map f).all p = ks.all q := by
  rw [Bool.eq_iff_iff, List.all_eq_true, List.all_eq_true]
  constructor
  · intro h2 k hk; rw [← h k hk]; exact h2 _ (List.mem_map.2 ⟨k, hk, rfl⟩)
  · intro h2 y hy
    obtain ⟨k, hk, rfl⟩ := List.mem_map.1 hy
    rw [h k hk]; exact h2 k hk
theorem any_map {ks : List Filter} {f : Filter → Filter} {p q : Filter → Bool} (h : ∀ k ∈ ks, p (f k) = q k) : (ks.map f).any p = ks.any q := by
  rw [Bool.eq_iff_iff, List.any_eq_true, List.any_eq_true]
  constructor
  · rintro ⟨y, hy, hp⟩
    obtain ⟨k, hk, rfl⟩ := List.mem_map.1 hy
    exact ⟨k, hk, by rw [← h k hk]; exact hp⟩
  · rintro ⟨k, hk, hp⟩
    exact ⟨_, List.mem_map.2 ⟨k, hk, rfl⟩, by rw [h k hk]; exact hp⟩
theorem all_not (ks : List Filter) (p : Filter → Bool) : (ks.all fun k => !p k) = !ks.any p := by
  rw [List.not_any_eq_all_not]
theorem any_not (ks : List Filter) (p : Filter → Bool) : (ks.any fun k => !p k) = !ks.all p := by
  rw [List.not_all_eq_any_not]

theorem turn_holds (ft : Fact) (D M : Int) : ∀ x, size x ≤ 200 → allP D M x = true → ∀ b, holdsF ft (turnF b x) = (b ^^ holdsF ft x) := by
  refine by_ht fun x ih hs hp b => ?_
  obtain ⟨hp1, hpk⟩ := (allP_iff D M x).1 hp
  have hik : ∀ k ∈ kidsOf x, ∀ b, holdsF ft (turnF b k) = (b ^^ holdsF ft k) := fun k hk b => ih k hk (by have := size_kid hk; omega) (hpk k hk) b
  rw [turnF_eq, if_neg (by rintro ⟨_, h⟩; exact absurd (sizeF_le.2 hs) (by omega))]
  by_cases h2 : x.Kind = 2
  · rw [if_pos h2]
    obtain ⟨y, hy⟩ := kid_2 hp1 h2
    rw [hy, holds_2 ft h2 hy]
    show holdsF ft (turnF (!b) y) = _
    rw [hik y (by rw [hy]; simp)]
    cases b <;> simp
  · rw [if_neg h2]
    by_cases h3 : x.Kind = 3
    · rw [if_pos (.inl h3), holds_3 ft x h3]
      cases b with
      | true =>
        rw [holds_4 _ _ (by simp [h3]), kids_34 _ (by simp [h3]), any_map (q := fun k => !holdsF ft k) (fun k hk => by rw [hik k hk]; simp), any_not]
        simp
      | false =>
        rw [holds_3 _ _ (by simp [h3]), kids_34 _ (by simp [h3]), all_map (q := holdsF ft) (fun k hk => by rw [hik k hk]; simp)]
        simp
    · by_cases h4 : x.Kind = 4
      · rw [if_pos (.inr h4), holds_4 ft x h4]
        cases b with
        | true =>
          rw [holds_3 _ _ (by simp [h4]), kids_34 _ (by simp [h4]), all_map (q := fun k => !holdsF ft k) (fun k hk => by rw [hik k hk]; simp), all_not]
          simp
        | false =>
          rw [holds_4 _ _ (by simp [h4]), kids_34 _ (by simp [h4]), any_map (q := holdsF ft) (fun k hk => by rw [hik k hk]; simp)]
          simp
      · rw [if_neg (by omega)]
        cases b with
        | true => simp only [if_true]; rw [holds_not, holds_bare ft x h2 (by omega)]; simp
        | false => simp only [Bool.false_eq_true, if_false]; rw [holds_bare ft x h2 (by omega)]; simp
end Go.Proofs.Ytddjbhphhhdnfaa.K
