/- The contract of filter.Same at filters that have no more than 200 parts; what two filters being the same comes to, kind by kind. -/
import Derived.Test.YtddjbhphhhdnfaaG14
namespace Go.Proofs.Ytddjbhphhhdnfaa.K
open Go.RowKit
set_option linter.unusedVariables false
set_option linter.unusedSimpArgs false

set_option maxHeartbeats 2000000 in
theorem filterSame_any (x y : Filter) (cs ds : List Value) (w : World) (hs : size x ≤ 200) (h : kFilter.K w Any x cs) (h2 : kFilter.K w Any y ds) :
    Calls Try.prog 16 #[.agg cs.toArray, .agg ds.toArray] w fun e w' => e = .returned (.bool (sameF x y)) ∧ Below w.heap.size w w' := by
  have HC := Aside.mk (fun o1 o2 o3 (h3 : (((w.alloc o1).alloc o2).alloc o3).heap[w.heap.size + 1 + 1]? = some (.cells #[.int .i64 200] 3 (0, 0))) =>
    same_any ((w.alloc o1).alloc o2) (w.heap.size + 1 + 1) (by simp) _ x (Nat.le_refl _) y 200 cs ds (((w.alloc o1).alloc o2).alloc o3) (by omega) (by omega)
      (Kd.below (Kd.below h (below_alloc (Below.refl _ _) o1)) (below_alloc (Below.refl _ _) o2)) (Kd.below (Kd.below h2 (below_alloc (Below.refl _ _) o1)) (below_alloc (Below.refl _ _) o2)) (below_alloc (Below.refl _ _) o3) h3)
  obtain ⟨A0, c0, A1, c1, rfl, q0, q1, q2, q3, q4, q5⟩ := kFilter_open h
  obtain ⟨C0, e0, C1, e1, rfl, s0, s1, s2, s3, s4, s5⟩ := kFilter_open h2
  clear h h2 q0 q1 q2 q3 q4 q5 s0 s1 s2 s3 s4 s5
  generalize sameF x y = z at *
  go_enter Try.func16, Try.ntmps16
  go_wp2_with fail
  refine (HC.out _ _ _ (three_known rfl).2.2.1).mono ?_
  rintro e w5 ⟨l, rfl, hl3, hl4, hL5, hB5, hF5⟩
  have HB5 := Aside.mk (below_self (below_alloc (below_alloc (Below.refl _ w) _) _) hB5)
  clear hL5 hB5 hF5
  go_wp2
  go_ret
  exact ⟨rfl, HB5.out⟩

theorem kids_leaf {x : Filter} (h : ¬ x.Kind = 2) (h34 : ¬ (x.Kind = 3 ∨ x.Kind = 4)) : kidsOf x = [] := by simp only [kidsOf, if_neg h, if_neg h34]
theorem same_kind {x y : Filter} (h : ¬ x.Kind = y.Kind) : sameF x y = false := by
  have : ((bareF x).Kind == (bareF y).Kind) = false := by rw [kind_bare, kind_bare]; simpa using h
  rw [sameF_eq, likeF, likeB, this]
  simp
theorem same_567 {x y : Filter} (h : x.Kind = y.Kind) (k : x.Kind = 5 ∨ x.Kind = 6 ∨ x.Kind = 7) : sameF x y = ((x.Dim == y.Dim) && zipAll isText x.Texts y.Texts) := by
  have hx : bareF x = ⟨x.Kind, x.Dim, x.Texts, 0, 0, []⟩ := by simp only [bareF, if_pos k]
  have hy : bareF y = ⟨y.Kind, y.Dim, y.Texts, 0, 0, []⟩ := by rw [h] at k; simp only [bareF, if_pos k]
  rw [sameF_eq, kids_leaf (x := x) (by omega) (by omega), kids_leaf (x := y) (by omega) (by omega), likeF, hx, hy, likeB]
  simp [h, zipAll]
theorem same_8 {x y : Filter} (h : x.Kind = y.Kind) (k : x.Kind = 8) : sameF x y = ((x.Dim == y.Dim) && (x.Lo == y.Lo) && (x.Hi == y.Hi)) := by
  have n5 : ¬ (x.Kind = 5 ∨ x.Kind = 6 ∨ x.Kind = 7) := by omega
  have hx : bareF x = ⟨x.Kind, x.Dim, [], x.Lo, x.Hi, []⟩ := by simp only [bareF, if_neg n5, if_pos k]
  have hy : bareF y = ⟨y.Kind, y.Dim, [], y.Lo, y.Hi, []⟩ := by rw [h] at k n5; simp only [bareF, if_neg n5, if_pos k]
  rw [sameF_eq, kids_leaf (x := x) (by omega) (by omega), kids_leaf (x := y) (by omega) (by omega), likeF, hx, hy, likeB]
  simp [h, zipAll]
theorem same_kids {x y : Filter} (h : x.Kind = y.Kind) (k : ¬ (x.Kind = 5 ∨ x.Kind = 6 ∨ x.Kind = 7)) (k8 : ¬ x.Kind = 8) : sameF x y = zipAll sameF (kidsOf x) (kidsOf y) := by
  have hx : bareF x = ⟨x.Kind, 0, [], 0, 0, []⟩ := by simp only [bareF, if_neg k, if_neg k8]
  have hy : bareF y = ⟨y.Kind, 0, [], 0, 0, []⟩ := by rw [h] at k k8; simp only [bareF, if_neg k, if_neg k8]
  rw [sameF_eq, likeF, hx, hy, likeB]
  simp [h, zipAll]
end Go.Proofs.Ytddjbhphhhdnfaa.K
