/- The law FilterSame, walked: it returns true. No condition. -/
import Derived.Test.YtddjbhphhhdnfaaG17
namespace Go.Proofs.Ytddjbhphhhdnfaa.K
open Go.RowKit
set_option linter.unusedVariables false
set_option linter.unusedSimpArgs false

theorem blk2c {w W : World} {g : Nat} {t : TypeId} {a b : Value} (h : w.heap[g]? = some (.cells #[a, b] t (0, 0))) (hb : Below w.heap.size w W) : W.cell? ⟨g, 0, none⟩ = some a ∧ W.cell? ⟨g, 1, none⟩ = some b :=
  ⟨(blk_cell (blk_below h hb) 0).trans rfl, (blk_cell (blk_below h hb) 1).trans rfl⟩
theorem zipAll_refl {α : Type} {p : α → α → Bool} : ∀ {x : List α}, (∀ a ∈ x, p a a = true) → zipAll p x x = true
  | [], _ => rfl
  | a :: x, h => by
    simp only [zipAll]
    rw [h a (by simp), zipAll_refl (x := x) (fun b hb => h b (by simp [hb]))]
    rfl
theorem same_refl : ∀ x, sameF x x = true := by
  refine by_ht fun x ih => ?_
  rw [sameF_eq, zipAll_refl (p := sameF) ih, likeF, likeB, zipAll_refl (p := isText) (fun t _ => by simp [isText])]
  simp

set_option maxHeartbeats 8000000 in
set_option maxRecDepth 100000 in
theorem law_same (w : World) (s : Schema) (ss : List Value) (h0 : kSchema.K w Any s ss) (x : Filter) (cs : List Value) (h : kFilter.K w Any x cs) (y : Filter) (ds : List Value) (h2 : kFilter.K w Any y ds) :
    Calls Try.prog 6 #[.agg ss.toArray, .agg cs.toArray, .agg ds.toArray] w fun e w' => e = .returned (.bool true) ∧ Below w.heap.size w w' := by
  have HX := Aside.mk h
  have HY := Aside.mk h2
  obtain ⟨rfl, _, _⟩ := kSchema_open h0
  obtain ⟨A0, c0, A1, c1, rfl, q0, q1, q2, q3, q4, q5⟩ := kFilter_open h
  obtain ⟨C0, e0, C1, e1, rfl, s0, s1, s2, s3, s4, s5⟩ := kFilter_open h2
  clear h h2 q0 q1 q2 q3 q4 q5 s0 s1 s2 s3 s4 s5 h0
  go_enter Try.func6, Try.ntmps6
  go_wp2_with fail
  generalize hW : ((w.alloc _).alloc _).alloc _ = W
  obtain ⟨b1, b2, b3, hbel⟩ := three_known hW
  have HBW := Aside.mk hbel
  have HX := Aside.mk (Kd.below HX.out hbel)
  have HY := Aside.mk (Kd.below HY.out hbel)
  have HP1 := Aside.mk b1
  have HP2 := Aside.mk b2
  have HP3 := Aside.mk b3
  clear hW b1 b2 b3 hbel
  have hcl : ∀ W', Aside (Below W.heap.size W W') → (fun W => W.cell? ⟨w.heap.size, 0, none⟩ = some (.int .i64 s.Dims) ∧ W.cell? ⟨w.heap.size, 1, none⟩ = some (.int .i64 s.Meas) ∧ W.cell? ⟨w.heap.size + 1, 0, none⟩ = some (.int .i64 x.Kind) ∧ W.cell? ⟨w.heap.size + 1, 1, none⟩ = some (.int .i64 x.Dim) ∧ W.cell? ⟨w.heap.size + 1, 2, none⟩ = some (.slice A0 x.Texts.length c0) ∧ W.cell? ⟨w.heap.size + 1, 3, none⟩ = some (.int .i64 x.Lo) ∧ W.cell? ⟨w.heap.size + 1, 4, none⟩ = some (.int .i64 x.Hi) ∧ W.cell? ⟨w.heap.size + 1, 5, none⟩ = some (.slice A1 x.Kids.length c1) ∧ W.cell? ⟨w.heap.size + 1 + 1, 0, none⟩ = some (.int .i64 y.Kind) ∧ W.cell? ⟨w.heap.size + 1 + 1, 1, none⟩ = some (.int .i64 y.Dim) ∧ W.cell? ⟨w.heap.size + 1 + 1, 2, none⟩ = some (.slice C0 y.Texts.length e0) ∧ W.cell? ⟨w.heap.size + 1 + 1, 3, none⟩ = some (.int .i64 y.Lo) ∧ W.cell? ⟨w.heap.size + 1 + 1, 4, none⟩ = some (.int .i64 y.Hi) ∧ W.cell? ⟨w.heap.size + 1 + 1, 5, none⟩ = some (.slice C1 y.Kids.length e1)) W' := fun W' I => by
    obtain ⟨l0, l1⟩ := blk2c HP1.out I.out
    obtain ⟨i0, i1, i2, i3, i4, i5⟩ := blk6 HP2.out I.out
    obtain ⟨j0, j1, j2, j3, j4, j5⟩ := blk6 HP3.out I.out
    exact ⟨l0, l1, i0, i1, i2, i3, i4, i5, j0, j1, j2, j3, j4, j5⟩
  have hca := fun W' (I : Aside (Below W.heap.size W W')) => Aside.mk (refCheck_any s.Dims s.Meas x _ W' (Kd.below HX.out I.out))
  have hcb := fun W' (I : Aside (Below W.heap.size W W')) => Aside.mk (refCheck_any s.Dims s.Meas y _ W' (Kd.below HY.out I.out))
  refine (awake_any W).mono ?_
  rintro e w2 ⟨rfl, hb⟩
  have HI2 := Aside.mk hb
  obtain ⟨l0, l1, i0, i1, i2, i3, i4, i5, j0, j1, j2, j3, j4, j5⟩ := hcl _ HI2
  clear hb
  go_wp2_with fail
  by_cases oka : okF s.Dims s.Meas x = true
  · rw [oka] at hca
    simp only [errOf, if_true] at hca
    refine (hca _ HI2).out.mono ?_
    rintro e wq3 ⟨rfl, hb⟩
    have HI3 := Aside.mk (below_self HI2.out hb)
    clear hb
    obtain ⟨l0, l1, i0, i1, i2, i3, i4, i5, j0, j1, j2, j3, j4, j5⟩ := hcl _ HI3
    go_wp2_with fail
    by_cases okb : okF s.Dims s.Meas y = true
    · rw [okb] at hcb
      simp only [errOf, if_true] at hcb
      refine (hcb _ HI3).out.mono ?_
      rintro e wq4 ⟨rfl, hb⟩
      have HI4 := Aside.mk (below_self HI3.out hb)
      clear hb
      obtain ⟨l0, l1, i0, i1, i2, i3, i4, i5, j0, j1, j2, j3, j4, j5⟩ := hcl _ HI4
      go_wp2_with fail
      have hsz := ((ok_iff _ _ x).1 oka).1
      have hsab := fun W' (I : Aside (Below W.heap.size W W')) => Aside.mk (filterSame_any x y _ _ W' hsz (Kd.below HX.out I.out) (Kd.below HY.out I.out))
      have hsaa := fun W' (I : Aside (Below W.heap.size W W')) => Aside.mk (filterSame_any x x _ _ W' hsz (Kd.below HX.out I.out) (Kd.below HX.out I.out))
      have hrs := fun W' (I : Aside (Below W.heap.size W W')) => Aside.mk (refSame_any _ x (Nat.le_refl _) y _ _ W' (Kd.below HX.out I.out) (Kd.below HY.out I.out))
      rw [same_refl] at hsaa
      have HI4 := Aside.mk HI4.out.drew
      clear oka okb
      generalize sameF x y = r at *
      cases r
      all_goals
        go_region_held3 (fun W => W.cell? ⟨w.heap.size, 0, none⟩ = some (.int .i64 s.Dims) ∧ W.cell? ⟨w.heap.size, 1, none⟩ = some (.int .i64 s.Meas) ∧ W.cell? ⟨w.heap.size + 1, 0, none⟩ = some (.int .i64 x.Kind) ∧ W.cell? ⟨w.heap.size + 1, 1, none⟩ = some (.int .i64 x.Dim) ∧ W.cell? ⟨w.heap.size + 1, 2, none⟩ = some (.slice A0 x.Texts.length c0) ∧ W.cell? ⟨w.heap.size + 1, 3, none⟩ = some (.int .i64 x.Lo) ∧ W.cell? ⟨w.heap.size + 1, 4, none⟩ = some (.int .i64 x.Hi) ∧ W.cell? ⟨w.heap.size + 1, 5, none⟩ = some (.slice A1 x.Kids.length c1) ∧ W.cell? ⟨w.heap.size + 1 + 1, 0, none⟩ = some (.int .i64 y.Kind) ∧ W.cell? ⟨w.heap.size + 1 + 1, 1, none⟩ = some (.int .i64 y.Dim) ∧ W.cell? ⟨w.heap.size + 1 + 1, 2, none⟩ = some (.slice C0 y.Texts.length e0) ∧ W.cell? ⟨w.heap.size + 1 + 1, 3, none⟩ = some (.int .i64 y.Lo) ∧ W.cell? ⟨w.heap.size + 1 + 1, 4, none⟩ = some (.int .i64 y.Hi) ∧ W.cell? ⟨w.heap.size + 1 + 1, 5, none⟩ = some (.slice C1 y.Kids.length e1)) (exact hcl _ (by assumption)) (first | (go_at_call 16; refine (hsaa _ HI6).out.mono ?_; rintro e wq7 ⟨rfl, hb⟩; have HI7 := Aside.mk (below_self HI6.out hb); clear hb) | (go_at_call 17; refine (hrs _ HI5).out.mono ?_; rintro e wq6 ⟨rfl, hb⟩; have HI6 := Aside.mk (below_self HI5.out hb); clear hb) | (go_at_call 16; refine (hsab _ HI4).out.mono ?_; rintro e wq5 ⟨rfl, hb⟩; have HI5 := Aside.mk (below_self HI4.out hb); clear hb))
        all_goals
          go_wp2
          go_ret
          exact ⟨rfl, below_self HBW.out HI7.out⟩
    · have okb0 : okF s.Dims s.Meas y = false := by simpa using okb
      rw [okb0] at hcb
      simp only [errOf, Bool.false_eq_true, if_false] at hcb
      refine (hcb _ HI3).out.mono ?_
      rintro e wq4 ⟨rfl, hb⟩
      have HI4 := Aside.mk (below_self HI3.out hb)
      clear hb
      go_wp2_with fail
      go_ret
      exact ⟨rfl, below_self HBW.out HI4.out⟩
  · have oka0 : okF s.Dims s.Meas x = false := by simpa using oka
    rw [oka0] at hca
    simp only [errOf, Bool.false_eq_true, if_false] at hca
    refine (hca _ HI2).out.mono ?_
    rintro e wq3 ⟨rfl, hb⟩
    have HI3 := Aside.mk (below_self HI2.out hb)
    clear hb
    go_wp2_with fail
    go_ret
    exact ⟨rfl, below_self HBW.out HI3.out⟩
end Go.Proofs.Ytddjbhphhhdnfaa.K
