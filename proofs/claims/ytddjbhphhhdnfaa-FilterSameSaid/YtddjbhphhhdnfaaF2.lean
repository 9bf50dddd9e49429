/- How many parts a filter has, and whether each of them is fine at its depth; the contract of filter.count: no condition but small numbers. -/
import Derived.Test.YtddjbhphhhdnfaaF1
namespace Go.Proofs.Ytddjbhphhhdnfaa.K
open Go.RowKit
set_option linter.unusedVariables false

mutual
def ht : Filter → Nat
  | ⟨_, _, _, _, _, ks⟩ => hts ks + 1
def hts : List Filter → Nat
  | [] => 0
  | k :: ks => max (ht k) (hts ks)
end
theorem ht_eq (x : Filter) : ht x = hts x.Kids + 1 := by cases x; rw [ht]
theorem ht_mem {k : Filter} : ∀ {ks : List Filter}, k ∈ ks → ht k ≤ hts ks
  | [], h => by cases h
  | k0 :: ks, h => by
    rw [hts]
    rcases List.mem_cons.1 h with rfl | h
    · omega
    · have := ht_mem h; omega
theorem kidsOf_mem {k x : Filter} (h : k ∈ kidsOf x) : k ∈ x.Kids := by
  unfold kidsOf at h
  split at h
  · exact List.mem_of_mem_take h
  · split at h
    · exact h
    · cases h
theorem ht_kid {k x : Filter} (h : k ∈ kidsOf x) : ht k < ht x := by
  have := ht_mem (kidsOf_mem h)
  rw [ht_eq x]
  omega
def size (x : Filter) : Nat := 1 + ((kidsOf x).attach.map fun k => size k.1).sum
termination_by ht x
decreasing_by exact ht_kid k.2
def sizes (ks : List Filter) : Nat := (ks.map size).sum
theorem size_eq (x : Filter) : size x = 1 + sizes (kidsOf x) := by
  rw [size]
  unfold sizes
  rw [← List.attach_map_subtype_val (kidsOf x), List.map_map]
  simp [Function.comp_def]
def allF (fine : Filter → Int → Bool) (x : Filter) (d : Int) : Bool := fine x d && (kidsOf x).attach.all fun k => allF fine k.1 (d + 1)
termination_by ht x
decreasing_by exact ht_kid k.2
theorem allF_eq (fine : Filter → Int → Bool) (x : Filter) (d : Int) : allF fine x d = (fine x d && (kidsOf x).all fun k => allF fine k (d + 1)) := by
  rw [allF]
  congr 1
  rw [Bool.eq_iff_iff]
  simp
theorem size_pos (x : Filter) : 1 ≤ size x := by rw [size_eq]; omega
theorem sizes_take_succ {ks : List Filter} {k : Nat} (hk : k < ks.length) : sizes (ks.take (k + 1)) = sizes (ks.take k) + size ks[k] := by
  unfold sizes
  rw [List.take_succ_eq_append_getElem hk, List.map_append, List.sum_append]
  simp
theorem sizes_take_le (ks : List Filter) (k : Nat) : sizes (ks.take k) ≤ sizes ks := by
  have h : sizes ks = sizes (ks.take k ++ ks.drop k) := by rw [List.take_append_drop]
  rw [h]
  unfold sizes
  rw [List.map_append, List.sum_append]
  omega

/-- What count tells of a filter at a depth, so many parts being left: whether all are fine and no more than those; how many are left then. -/
def Cnt (fine : Filter → Int → Bool) (x : Filter) (d left : Int) (b : Bool) (l : Int) : Prop :=
  (b = true ↔ (size x : Int) ≤ left ∧ allF fine x d = true) ∧ (b = true → l = left - size x) ∧ -1 ≤ l ∧ ((∀ x d, fine x d = true) → b = false → l = -1)

theorem Cnt_none {fine : Filter → Int → Bool} {x : Filter} {d left : Int} (h : left < 1) (h0 : 0 ≤ left) : Cnt fine x d left false (left - 1) := by
  have := size_pos x
  refine ⟨⟨(fun h => by cases h), fun h => by omega⟩, (fun h => by cases h), by omega, fun _ _ => by omega⟩
theorem Cnt_bad {fine : Filter → Int → Bool} {x : Filter} {d left : Int} (h : 1 ≤ left) (hf : fine x d = false) : Cnt fine x d left false (left - 1) := by
  refine ⟨⟨(fun h => by cases h), fun h => ?_⟩, (fun h => by cases h), by omega, fun h _ => ?_⟩
  · rw [allF_eq, hf] at h
    simp at h
  · rw [h] at hf; cases hf
theorem Cnt_kid {fine : Filter → Int → Bool} {x : Filter} {d left l l2 : Int} {k : Nat} (hk : k < (kidsOf x).length) (hl : l = left - 1 - sizes ((kidsOf x).take k)) (h : Cnt fine (kidsOf x)[k] (d + 1) l false l2) : Cnt fine x d left false l2 := by
  obtain ⟨h1, _, h3, h4⟩ := h
  have hs := size_eq x
  have ht := sizes_take_succ hk
  have hle := sizes_take_le (kidsOf x) (k + 1)
  refine ⟨⟨(fun h => by cases h), fun ⟨ha, hb⟩ => ?_⟩, (fun h => by cases h), h3, h4⟩
  rw [allF_eq, Bool.and_eq_true, List.all_eq_true] at hb
  have := h1.2 ⟨by omega, hb.2 _ (List.getElem_mem hk)⟩
  cases this
theorem Cnt_all {fine : Filter → Int → Bool} {x : Filter} {d left : Int} (h0 : 0 ≤ left - 1 - sizes (kidsOf x)) (hf : fine x d = true) (h : ∀ j (hj : j < (kidsOf x).length), allF fine (kidsOf x)[j] (d + 1) = true) : Cnt fine x d left true (left - 1 - sizes (kidsOf x)) := by
  have hs := size_eq x
  refine ⟨⟨fun _ => ⟨by omega, ?_⟩, fun _ => rfl⟩, fun _ => by omega, by omega, (fun _ h => by cases h)⟩
  rw [allF_eq, hf, Bool.true_and, List.all_eq_true]
  intro k hk
  obtain ⟨j, hj, rfl⟩ := List.mem_iff_getElem.1 hk
  exact h j hj

end Go.Proofs.Ytddjbhphhhdnfaa.K
