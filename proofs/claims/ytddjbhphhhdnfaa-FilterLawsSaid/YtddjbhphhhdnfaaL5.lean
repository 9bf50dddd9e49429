/- The law FilterLaws, walked: it returns true. No condition. -/
import Derived.Test.YtddjbhphhhdnfaaL4
namespace Go.Proofs.Ytddjbhphhhdnfaa.K
open Go.RowKit
set_option linter.unusedVariables false
set_option linter.unusedSimpArgs false

theorem blk2 {w W : World} {g : Nat} {t : TypeId} {a b : Value} (h : w.heap[g]? = some (.cells #[a, b] t (0, 0))) (hb : Below w.heap.size w W) : W.cell? ⟨g, 0, none⟩ = some a ∧ W.cell? ⟨g, 1, none⟩ = some b :=
  ⟨(blk_cell (blk_below h hb) 0).trans rfl, (blk_cell (blk_below h hb) 1).trans rfl⟩
def andF (x y : Filter) : Filter := ⟨3, 0, [], 0, 0, [x, y]⟩
def orF (x y : Filter) : Filter := ⟨4, 0, [], 0, 0, [x, y]⟩
def notF (x : Filter) : Filter := ⟨2, 0, [], 0, 0, [x]⟩
theorem depth_and (x y : Filter) : depthF (andF x y) = max (depthF x) (depthF y) + 1 := by
  have : maxL [depthF x, depthF y] = max (depthF x) (max (depthF y) 0) := rfl
  rw [depthF_eq, andF, kids_34 3 (.inl rfl), List.map_cons, List.map_cons, List.map_nil, this]
  omega
theorem depth_not (x : Filter) : depthF (notF x) = depthF x + 1 := by
  have : maxL [depthF x] = max (depthF x) 0 := rfl
  rw [depthF_eq, notF, kids_not, List.map_cons, List.map_nil, this]
  omega
/-- What the law needs to know of two filters that may be. -/
theorem laws_plain (ft : Fact) (D M : Int) (x y : Filter) (hx : okF D M x = true) (hy : okF D M y = true) :
    depthF (andF x y) ≤ 21 ∧ depthF (notF x) ≤ 21 ∧
    (okF D M (andF x y) = false → 20 < depthF (andF x y) ∨ 200 < sizeF (andF x y)) ∧ (okF D M (notF x) = false → 20 < depthF (notF x) ∨ 200 < sizeF (notF x)) ∧
    holdsF ft (andF x y) = (holdsF ft x && holdsF ft y) ∧ holdsF ft (orF x y) = (holdsF ft x || holdsF ft y) ∧ holdsF ft (notF x) = !holdsF ft x := by
  obtain ⟨sx, px, dx⟩ := (ok_iff D M x).1 hx
  obtain ⟨sy, py, dy⟩ := (ok_iff D M y).1 hy
  have key : ∀ z, allP D M z = true → okF D M z = false → 20 < depthF z ∨ 200 < sizeF z := by
    intro z hz ho
    refine Decidable.byContradiction fun hc => ?_
    have : okF D M z = true := (ok_iff _ _ _).2 ⟨sizeF_le.1 (by omega), hz, by omega⟩
    rw [this] at ho
    cases ho
  refine ⟨by rw [depth_and]; omega, by rw [depth_not]; omega, key _ ?_, key _ (allP_not px), ?_, ?_, holds_not ft x⟩
  · rw [allP_iff, andF, kids_34 3 (.inl rfl)]
    refine ⟨by simp [partOf], fun k hk => ?_⟩
    simp only [List.mem_cons, List.not_mem_nil, or_false] at hk
    rcases hk with rfl | rfl
    · exact px
    · exact py
  · rw [holds_3 _ _ rfl, andF, kids_34 3 (.inl rfl)]; simp
  · rw [holds_4 _ _ rfl, orF, kids_34 4 (.inr rfl)]; simp

set_option maxHeartbeats 16000000 in
set_option maxRecDepth 100000 in
theorem law_laws (w : World) (x : Filter) (cs : List Value) (h : kFilter.K w Any x cs) (y : Filter) (ds : List Value) (h2 : kFilter.K w Any y ds) (ft : Fact) (fs : List Value) (hf : kFact.K w Any ft fs) :
    Calls Try.prog 5 #[.agg cs.toArray, .agg ds.toArray, .agg fs.toArray] w fun e w' => e = .returned (.bool true) ∧ Below w.heap.size w w' := by
  have HX := Aside.mk h
  have HY := Aside.mk h2
  have HF := Aside.mk hf
  obtain ⟨A0, c0, A1, c1, rfl, q0, q1, q2, q3, q4, q5⟩ := kFilter_open h
  obtain ⟨C0, e0, C1, e1, rfl, s0, s1, s2, s3, s4, s5⟩ := kFilter_open h2
  obtain ⟨B0, d0, B1, d1, rfl, r0, r1, r2⟩ := kFact_open hf
  clear h h2 hf q0 q1 q2 q3 q4 q5 r0 r1 r2 s0 s1 s2 s3 s4 s5
  go_enter Try.func5, Try.ntmps5
  go_wp2_with fail
  generalize hW : ((w.alloc _).alloc _).alloc _ = W
  obtain ⟨b1, b2, b3, hbel⟩ := three_known hW
  have HBW := Aside.mk hbel
  have HX := Aside.mk (Kd.below HX.out hbel)
  have HY := Aside.mk (Kd.below HY.out hbel)
  have HF := Aside.mk (Kd.below HF.out hbel)
  have HP1 := Aside.mk b1
  have HP2 := Aside.mk b2
  have HP3 := Aside.mk b3
  clear hW b1 b2 b3 hbel
  have hclA : ∀ W', Aside (Below W.heap.size W W') → (fun W => W.cell? ⟨w.heap.size, 0, none⟩ = some (.int .i64 x.Kind) ∧ W.cell? ⟨w.heap.size, 1, none⟩ = some (.int .i64 x.Dim) ∧ W.cell? ⟨w.heap.size, 2, none⟩ = some (.slice A0 x.Texts.length c0) ∧ W.cell? ⟨w.heap.size, 3, none⟩ = some (.int .i64 x.Lo) ∧ W.cell? ⟨w.heap.size, 4, none⟩ = some (.int .i64 x.Hi) ∧ W.cell? ⟨w.heap.size, 5, none⟩ = some (.slice A1 x.Kids.length c1) ∧ W.cell? ⟨w.heap.size + 1, 0, none⟩ = some (.int .i64 y.Kind) ∧ W.cell? ⟨w.heap.size + 1, 1, none⟩ = some (.int .i64 y.Dim) ∧ W.cell? ⟨w.heap.size + 1, 2, none⟩ = some (.slice C0 y.Texts.length e0) ∧ W.cell? ⟨w.heap.size + 1, 3, none⟩ = some (.int .i64 y.Lo) ∧ W.cell? ⟨w.heap.size + 1, 4, none⟩ = some (.int .i64 y.Hi) ∧ W.cell? ⟨w.heap.size + 1, 5, none⟩ = some (.slice C1 y.Kids.length e1) ∧ W.cell? ⟨w.heap.size + 1 + 1, 0, none⟩ = some (.int .i64 ft.Time) ∧ W.cell? ⟨w.heap.size + 1 + 1, 1, none⟩ = some (.slice B0 ft.Dims.length d0) ∧ W.cell? ⟨w.heap.size + 1 + 1, 2, none⟩ = some (.slice B1 ft.Meas.length d1)) W' := fun W' I => by
    obtain ⟨i0, i1, i2, i3, i4, i5⟩ := blk6 HP1.out I.out
    obtain ⟨j0, j1, j2, j3, j4, j5⟩ := blk6 HP2.out I.out
    obtain ⟨l0, l1, l2⟩ := blk3 HP3.out I.out
    exact ⟨i0, i1, i2, i3, i4, i5, j0, j1, j2, j3, j4, j5, l0, l1, l2⟩
  have hsc := fun W' (I : Aside (Below W.heap.size W W')) => Aside.mk (schema_any ft _ W' (Kd.below HF.out I.out))
  refine (awake_any W).mono ?_
  rintro e w2 ⟨rfl, hb⟩
  have HI2 := Aside.mk hb
  obtain ⟨i0, i1, i2, i3, i4, i5, j0, j1, j2, j3, j4, j5, l0, l1, l2⟩ := hclA _ HI2
  clear hb
  go_wp2_with fail
  refine (hsc _ HI2).out.mono ?_
  rintro e w3 ⟨rfl, hb⟩
  have HI3 := Aside.mk (below_self HI2.out hb)
  clear hb i0 i1 i2 i3 i4 i5 j0 j1 j2 j3 j4 j5 l0 l1 l2
  have ih := fun o0 => hclA (w3.alloc o0) (Aside.mk (below_self HI3.out (below_alloc (Below.refl _ _) _)))
  have i0 := fun o0 => (ih o0).1
  have i1 := fun o0 => (ih o0).2.1
  have i2 := fun o0 => (ih o0).2.2.1
  have i3 := fun o0 => (ih o0).2.2.2.1
  have i4 := fun o0 => (ih o0).2.2.2.2.1
  have i5 := fun o0 => (ih o0).2.2.2.2.2.1
  clear ih
  go_wp2_with fail
  clear i0 i1 i2 i3 i4 i5
  generalize hWb : w3.alloc _ = wb
  obtain ⟨b3, hbb⟩ := one_known hWb
  have HIb := Aside.mk (below_self HI3.out hbb)
  have HBW := Aside.mk (below_self HBW.out HIb.out)
  have HP1 := Aside.mk (blk_below HP1.out HIb.out)
  have HP2 := Aside.mk (blk_below HP2.out HIb.out)
  have HP3 := Aside.mk (blk_below HP3.out HIb.out)
  have HP4 := Aside.mk b3
  have HX := Aside.mk (Kd.below HX.out HIb.out)
  have HY := Aside.mk (Kd.below HY.out HIb.out)
  have HF := Aside.mk (Kd.below HF.out HIb.out)
  clear hWb b3 hbb HI3 HI2 HIb hclA hsc
  have hcl : ∀ W', Aside (Below wb.heap.size wb W') → (fun W => W.cell? ⟨w.heap.size, 0, none⟩ = some (.int .i64 x.Kind) ∧ W.cell? ⟨w.heap.size, 1, none⟩ = some (.int .i64 x.Dim) ∧ W.cell? ⟨w.heap.size, 2, none⟩ = some (.slice A0 x.Texts.length c0) ∧ W.cell? ⟨w.heap.size, 3, none⟩ = some (.int .i64 x.Lo) ∧ W.cell? ⟨w.heap.size, 4, none⟩ = some (.int .i64 x.Hi) ∧ W.cell? ⟨w.heap.size, 5, none⟩ = some (.slice A1 x.Kids.length c1) ∧ W.cell? ⟨w.heap.size + 1, 0, none⟩ = some (.int .i64 y.Kind) ∧ W.cell? ⟨w.heap.size + 1, 1, none⟩ = some (.int .i64 y.Dim) ∧ W.cell? ⟨w.heap.size + 1, 2, none⟩ = some (.slice C0 y.Texts.length e0) ∧ W.cell? ⟨w.heap.size + 1, 3, none⟩ = some (.int .i64 y.Lo) ∧ W.cell? ⟨w.heap.size + 1, 4, none⟩ = some (.int .i64 y.Hi) ∧ W.cell? ⟨w.heap.size + 1, 5, none⟩ = some (.slice C1 y.Kids.length e1) ∧ W.cell? ⟨w.heap.size + 1 + 1, 0, none⟩ = some (.int .i64 ft.Time) ∧ W.cell? ⟨w.heap.size + 1 + 1, 1, none⟩ = some (.slice B0 ft.Dims.length d0) ∧ W.cell? ⟨w.heap.size + 1 + 1, 2, none⟩ = some (.slice B1 ft.Meas.length d1) ∧ W.cell? ⟨w3.heap.size, 0, none⟩ = some (.int .i64 ft.Dims.length) ∧ W.cell? ⟨w3.heap.size, 1, none⟩ = some (.int .i64 ft.Meas.length)) W' := fun W' I => by
    obtain ⟨i0, i1, i2, i3, i4, i5⟩ := blk6 HP1.out I.out
    obtain ⟨j0, j1, j2, j3, j4, j5⟩ := blk6 HP2.out I.out
    obtain ⟨l0, l1, l2⟩ := blk3 HP3.out I.out
    obtain ⟨m0, m1⟩ := blk2 HP4.out I.out
    exact ⟨i0, i1, i2, i3, i4, i5, j0, j1, j2, j3, j4, j5, l0, l1, l2, m0, m1⟩
  have hca := fun W' (I : Aside (Below wb.heap.size wb W')) => Aside.mk (check_any ft.Dims.length ft.Meas.length x _ W' (Kd.below HX.out I.out))
  have hcb := fun W' (I : Aside (Below wb.heap.size wb W')) => Aside.mk (check_any ft.Dims.length ft.Meas.length y _ W' (Kd.below HY.out I.out))
  have hha := fun W' (I : Aside (Below wb.heap.size wb W')) => Aside.mk (holds_any ft _ x (Nat.le_refl _) _ _ W' (Kd.below HX.out I.out) (Kd.below HF.out I.out))
  have hhb := fun W' (I : Aside (Below wb.heap.size wb W')) => Aside.mk (holds_any ft _ y (Nat.le_refl _) _ _ W' (Kd.below HY.out I.out) (Kd.below HF.out I.out))
  have HI4 := Aside.mk (Below.refl wb.heap.size wb)
  by_cases oka : okF ft.Dims.length ft.Meas.length x = true
  · rw [oka] at hca
    simp only [errOf, if_true] at hca
    refine (hca _ HI4).out.mono ?_
    rintro e wq5 ⟨rfl, hb⟩
    have HI5 := Aside.mk (below_self HI4.out hb)
    clear hb
    obtain ⟨i0, i1, i2, i3, i4, i5, j0, j1, j2, j3, j4, j5, l0, l1, l2, m0, m1⟩ := hcl _ HI5
    go_wp2_with fail
    by_cases okb : okF ft.Dims.length ft.Meas.length y = true
    · rw [okb] at hcb
      simp only [errOf, if_true] at hcb
      refine (hcb _ HI5).out.mono ?_
      rintro e wq6 ⟨rfl, hb⟩
      have HI6 := Aside.mk (below_self HI5.out hb)
      clear hb
      obtain ⟨i0, i1, i2, i3, i4, i5, j0, j1, j2, j3, j4, j5, l0, l1, l2, m0, m1⟩ := hcl _ HI6
      go_wp2_with fail
      refine (hha _ HI6).out.mono ?_
      rintro e wq7 ⟨rfl, hb⟩
      have HI7 := Aside.mk (below_self HI6.out hb)
      clear hb
      obtain ⟨i0, i1, i2, i3, i4, i5, j0, j1, j2, j3, j4, j5, l0, l1, l2, m0, m1⟩ := hcl _ HI7
      go_wp2_with fail
      refine (hhb _ HI7).out.mono ?_
      rintro e w7 ⟨rfl, hb⟩
      have HI8 := Aside.mk (below_self HI7.out hb)
      clear hb i0 i1 i2 i3 i4 i5 j0 j1 j2 j3 j4 j5 l0 l1 l2 m0 m1
      have ih := hcl w7 HI8
      have i0 := ih.1
      have i1 := ih.2.1
      have i2 := ih.2.2.1
      have i3 := ih.2.2.2.1
      have i4 := ih.2.2.2.2.1
      have i5 := ih.2.2.2.2.2.1
      have i6 := ih.2.2.2.2.2.2.1
      have i7 := ih.2.2.2.2.2.2.2.1
      have i8 := ih.2.2.2.2.2.2.2.2.1
      have i9 := ih.2.2.2.2.2.2.2.2.2.1
      have i10 := ih.2.2.2.2.2.2.2.2.2.2.1
      have i11 := ih.2.2.2.2.2.2.2.2.2.2.2.1
      clear ih
      have jh := fun o0 o1 => hcl ((w7.alloc o0).alloc o1) (Aside.mk (below_self HI8.out (below_alloc (below_alloc (Below.refl _ _) _) _)))
      have j0 := fun o0 o1 => (jh o0 o1).1
      have j1 := fun o0 o1 => (jh o0 o1).2.1
      have j2 := fun o0 o1 => (jh o0 o1).2.2.1
      have j3 := fun o0 o1 => (jh o0 o1).2.2.2.1
      have j4 := fun o0 o1 => (jh o0 o1).2.2.2.2.1
      have j5 := fun o0 o1 => (jh o0 o1).2.2.2.2.2.1
      have j6 := fun o0 o1 => (jh o0 o1).2.2.2.2.2.2.1
      have j7 := fun o0 o1 => (jh o0 o1).2.2.2.2.2.2.2.1
      have j8 := fun o0 o1 => (jh o0 o1).2.2.2.2.2.2.2.2.1
      have j9 := fun o0 o1 => (jh o0 o1).2.2.2.2.2.2.2.2.2.1
      have j10 := fun o0 o1 => (jh o0 o1).2.2.2.2.2.2.2.2.2.2.1
      have j11 := fun o0 o1 => (jh o0 o1).2.2.2.2.2.2.2.2.2.2.2.1
      clear jh
      have lh := fun o0 o1 o2 o3 => hcl ((((w7.alloc o0).alloc o1).alloc o2).alloc o3) (Aside.mk (below_self HI8.out (below_alloc (below_alloc (below_alloc (below_alloc (Below.refl _ _) _) _) _) _)))
      have l0 := fun o0 o1 o2 o3 => (lh o0 o1 o2 o3).1
      have l1 := fun o0 o1 o2 o3 => (lh o0 o1 o2 o3).2.1
      have l2 := fun o0 o1 o2 o3 => (lh o0 o1 o2 o3).2.2.1
      have l3 := fun o0 o1 o2 o3 => (lh o0 o1 o2 o3).2.2.2.1
      have l4 := fun o0 o1 o2 o3 => (lh o0 o1 o2 o3).2.2.2.2.1
      have l5 := fun o0 o1 o2 o3 => (lh o0 o1 o2 o3).2.2.2.2.2.1
      clear lh
      have mh := fun o0 o1 o2 o3 o4 o5 => hcl ((((((w7.alloc o0).alloc o1).alloc o2).alloc o3).alloc o4).alloc o5) (Aside.mk (below_self HI8.out (below_alloc (below_alloc (below_alloc (below_alloc (below_alloc (below_alloc (Below.refl _ _) _) _) _) _) _) _)))
      have m0 := fun o0 o1 o2 o3 o4 o5 => (mh o0 o1 o2 o3 o4 o5).2.2.2.2.2.2.2.2.2.2.2.2.2.2.2.1
      have m1 := fun o0 o1 o2 o3 o4 o5 => (mh o0 o1 o2 o3 o4 o5).2.2.2.2.2.2.2.2.2.2.2.2.2.2.2.2
      clear mh
      go_wp2_with fail
      clear i0 i1 i2 i3 i4 i5 i6 i7 i8 i9 i10 i11 j0 j1 j2 j3 j4 j5 j6 j7 j8 j9 j10 j11 l0 l1 l2 l3 l4 l5 m0 m1
      generalize hWc : (((((w7.alloc _).alloc _).alloc _).alloc _).alloc _).alloc _ = wc
      obtain ⟨g0, g1, g2, g3, g4, g5, hbb⟩ := six_known hWc
      have HIb := Aside.mk (below_self HI8.out hbb)
      have HBW := Aside.mk (below_self HBW.out HIb.out)
      have HP1 := Aside.mk (blk_below HP1.out HIb.out)
      have HP2 := Aside.mk (blk_below HP2.out HIb.out)
      have HP3 := Aside.mk (blk_below HP3.out HIb.out)
      have HP4 := Aside.mk (blk_below HP4.out HIb.out)
      have HP5 := Aside.mk g1
      have HP6 := Aside.mk g3
      have HP7 := Aside.mk g5
      have hX := Kd.below HX.out HIb.out
      have hY := Kd.below HY.out HIb.out
      have HF := Aside.mk (Kd.below HF.out HIb.out)
      have HAN := Aside.mk (show kFilter.K wc Any (andF x y) _ from kidsFilter 3 rfl (Nat.le_refl _) (by simp) (C_cells2 (d := kFilter) g0 hX hY trivial))
      have HOR := Aside.mk (show kFilter.K wc Any (orF x y) _ from kidsFilter 4 rfl (Nat.le_refl _) (by simp) (C_cells2 (d := kFilter) g2 hX hY trivial))
      have HNO := Aside.mk (show kFilter.K wc Any (notF x) _ from kidsFilter 2 rfl (Nat.le_refl _) (by simp) (C_cells1 (d := kFilter) g4 hX trivial))
      have hpl := laws_plain ft _ _ x y oka okb
      clear hWc g0 g1 g2 g3 g4 g5 hbb HI8 HI7 HI6 HI5 HI4 HIb hcl hca hcb hha hhb hX hY oka okb
      have hcl : ∀ W', Aside (Below wc.heap.size wc W') → (fun W => W.cell? ⟨w.heap.size, 0, none⟩ = some (.int .i64 x.Kind) ∧ W.cell? ⟨w.heap.size, 1, none⟩ = some (.int .i64 x.Dim) ∧ W.cell? ⟨w.heap.size, 2, none⟩ = some (.slice A0 x.Texts.length c0) ∧ W.cell? ⟨w.heap.size, 3, none⟩ = some (.int .i64 x.Lo) ∧ W.cell? ⟨w.heap.size, 4, none⟩ = some (.int .i64 x.Hi) ∧ W.cell? ⟨w.heap.size, 5, none⟩ = some (.slice A1 x.Kids.length c1) ∧ W.cell? ⟨w.heap.size + 1, 0, none⟩ = some (.int .i64 y.Kind) ∧ W.cell? ⟨w.heap.size + 1, 1, none⟩ = some (.int .i64 y.Dim) ∧ W.cell? ⟨w.heap.size + 1, 2, none⟩ = some (.slice C0 y.Texts.length e0) ∧ W.cell? ⟨w.heap.size + 1, 3, none⟩ = some (.int .i64 y.Lo) ∧ W.cell? ⟨w.heap.size + 1, 4, none⟩ = some (.int .i64 y.Hi) ∧ W.cell? ⟨w.heap.size + 1, 5, none⟩ = some (.slice C1 y.Kids.length e1) ∧ W.cell? ⟨w.heap.size + 1 + 1, 0, none⟩ = some (.int .i64 ft.Time) ∧ W.cell? ⟨w.heap.size + 1 + 1, 1, none⟩ = some (.slice B0 ft.Dims.length d0) ∧ W.cell? ⟨w.heap.size + 1 + 1, 2, none⟩ = some (.slice B1 ft.Meas.length d1) ∧ W.cell? ⟨w3.heap.size, 0, none⟩ = some (.int .i64 ft.Dims.length) ∧ W.cell? ⟨w3.heap.size, 1, none⟩ = some (.int .i64 ft.Meas.length) ∧ W.cell? ⟨w7.heap.size + 1, 0, none⟩ = some (.int .i64 3) ∧ W.cell? ⟨w7.heap.size + 1, 1, none⟩ = some (.int .i64 0) ∧ W.cell? ⟨w7.heap.size + 1, 2, none⟩ = some (.slice none 0 0) ∧ W.cell? ⟨w7.heap.size + 1, 3, none⟩ = some (.int .i64 0) ∧ W.cell? ⟨w7.heap.size + 1, 4, none⟩ = some (.int .i64 0) ∧ W.cell? ⟨w7.heap.size + 1, 5, none⟩ = some (.slice (some ⟨w7.heap.size, 0, none⟩) 2 2) ∧ W.cell? ⟨w7.heap.size + 1 + 1 + 1, 0, none⟩ = some (.int .i64 4) ∧ W.cell? ⟨w7.heap.size + 1 + 1 + 1, 1, none⟩ = some (.int .i64 0) ∧ W.cell? ⟨w7.heap.size + 1 + 1 + 1, 2, none⟩ = some (.slice none 0 0) ∧ W.cell? ⟨w7.heap.size + 1 + 1 + 1, 3, none⟩ = some (.int .i64 0) ∧ W.cell? ⟨w7.heap.size + 1 + 1 + 1, 4, none⟩ = some (.int .i64 0) ∧ W.cell? ⟨w7.heap.size + 1 + 1 + 1, 5, none⟩ = some (.slice (some ⟨w7.heap.size + 1 + 1, 0, none⟩) 2 2) ∧ W.cell? ⟨w7.heap.size + 1 + 1 + 1 + 1 + 1, 0, none⟩ = some (.int .i64 2) ∧ W.cell? ⟨w7.heap.size + 1 + 1 + 1 + 1 + 1, 1, none⟩ = some (.int .i64 0) ∧ W.cell? ⟨w7.heap.size + 1 + 1 + 1 + 1 + 1, 2, none⟩ = some (.slice none 0 0) ∧ W.cell? ⟨w7.heap.size + 1 + 1 + 1 + 1 + 1, 3, none⟩ = some (.int .i64 0) ∧ W.cell? ⟨w7.heap.size + 1 + 1 + 1 + 1 + 1, 4, none⟩ = some (.int .i64 0) ∧ W.cell? ⟨w7.heap.size + 1 + 1 + 1 + 1 + 1, 5, none⟩ = some (.slice (some ⟨w7.heap.size + 1 + 1 + 1 + 1, 0, none⟩) 1 1)) W' := fun W' I => by
        obtain ⟨i0, i1, i2, i3, i4, i5⟩ := blk6 HP1.out I.out
        obtain ⟨j0, j1, j2, j3, j4, j5⟩ := blk6 HP2.out I.out
        obtain ⟨l0, l1, l2⟩ := blk3 HP3.out I.out
        obtain ⟨m0, m1⟩ := blk2 HP4.out I.out
        obtain ⟨n0, n1, n2, n3, n4, n5⟩ := blk6 HP5.out I.out
        obtain ⟨o0, o1, o2, o3, o4, o5⟩ := blk6 HP6.out I.out
        obtain ⟨p0, p1, p2, p3, p4, p5⟩ := blk6 HP7.out I.out
        exact ⟨i0, i1, i2, i3, i4, i5, j0, j1, j2, j3, j4, j5, l0, l1, l2, m0, m1, n0, n1, n2, n3, n4, n5, o0, o1, o2, o3, o4, o5, p0, p1, p2, p3, p4, p5⟩
      have hca := fun W' (I : Aside (Below wc.heap.size wc W')) => Aside.mk (check_any ft.Dims.length ft.Meas.length (andF x y) _ W' (Kd.below HAN.out I.out))
      have hcn := fun W' (I : Aside (Below wc.heap.size wc W')) => Aside.mk (check_any ft.Dims.length ft.Meas.length (notF x) _ W' (Kd.below HNO.out I.out))
      have hda := fun W' (I : Aside (Below wc.heap.size wc W')) => Aside.mk (refDepth_any _ (andF x y) (Nat.le_refl _) (Nat.le_trans hpl.1 (by decide)) _ W' (Kd.below HAN.out I.out))
      have hdn := fun W' (I : Aside (Below wc.heap.size wc W')) => Aside.mk (refDepth_any _ (notF x) (Nat.le_refl _) (Nat.le_trans hpl.2.1 (by decide)) _ W' (Kd.below HNO.out I.out))
      have hsa := fun W' (I : Aside (Below wc.heap.size wc W')) => Aside.mk (size_any (andF x y) _ W' (Kd.below HAN.out I.out))
      have hsn := fun W' (I : Aside (Below wc.heap.size wc W')) => Aside.mk (size_any (notF x) _ W' (Kd.below HNO.out I.out))
      have hha := fun W' (I : Aside (Below wc.heap.size wc W')) => Aside.mk (holds_any ft _ (andF x y) (Nat.le_refl _) _ _ W' (Kd.below HAN.out I.out) (Kd.below HF.out I.out))
      have hho := fun W' (I : Aside (Below wc.heap.size wc W')) => Aside.mk (holds_any ft _ (orF x y) (Nat.le_refl _) _ _ W' (Kd.below HOR.out I.out) (Kd.below HF.out I.out))
      have hhn := fun W' (I : Aside (Below wc.heap.size wc W')) => Aside.mk (holds_any ft _ (notF x) (Nat.le_refl _) _ _ W' (Kd.below HNO.out I.out) (Kd.below HF.out I.out))
      have HI1 := Aside.mk (Below.refl wc.heap.size wc)
      obtain ⟨p1, p2, p3, p4, p5, p6, p7⟩ := hpl
      rw [p5] at hha
      rw [p6] at hho
      rw [p7] at hhn
      generalize holdsF ft x = p at *
      generalize holdsF ft y = q at *
      generalize hoa : okF ft.Dims.length ft.Meas.length (andF x y) = oa at *
      generalize hon : okF ft.Dims.length ft.Meas.length (notF x) = on at *
      generalize depthF (andF x y) = da at *
      generalize depthF (notF x) = dn at *
      generalize sizeF (andF x y) = sa at *
      generalize sizeF (notF x) = sn at *
      cases oa with
      | false =>
        have hbad := p3 rfl
        simp only [errOf, Bool.false_eq_true, if_false] at hca
        refine (hca _ HI1).out.mono ?_
        rintro e wq2 ⟨rfl, hb⟩
        have HI2 := Aside.mk (below_self HI1.out hb)
        clear hb
        obtain ⟨i0, i1, i2, i3, i4, i5, j0, j1, j2, j3, j4, j5, l0, l1, l2, m0, m1, n0, n1, n2, n3, n4, n5, o0, o1, o2, o3, o4, o5, p0, p1, p2, p3, p4, p5⟩ := hcl _ HI2
        go_wp2_with fail
        by_cases g1 : 20 < da
        · have g1i : (20 : Int) < (da : Int) := by omega
          refine (hda _ HI2).out.mono ?_
          rintro e wq3 ⟨rfl, hb⟩
          have HI3 := Aside.mk (below_self HI2.out hb)
          clear hb
          go_wp2_with fail
          go_ret
          exact ⟨rfl, below_self HBW.out HI3.out⟩
        · have g1i : ¬ (20 : Int) < (da : Int) := by omega
          have g1b : decide ((20 : Int) < (da : Int)) = false := by simpa using g1i
          refine (hda _ HI2).out.mono ?_
          rintro e wq3 ⟨rfl, hb⟩
          have HI3 := Aside.mk (below_self HI2.out hb)
          clear hb
          obtain ⟨i0, i1, i2, i3, i4, i5, j0, j1, j2, j3, j4, j5, l0, l1, l2, m0, m1, n0, n1, n2, n3, n4, n5, o0, o1, o2, o3, o4, o5, p0, p1, p2, p3, p4, p5⟩ := hcl _ HI3
          go_wp2_with fail
          by_cases g2 : 20 < dn
          · have g2i : (20 : Int) < (dn : Int) := by omega
            refine (hdn _ HI3).out.mono ?_
            rintro e wq4 ⟨rfl, hb⟩
            have HI4 := Aside.mk (below_self HI3.out hb)
            clear hb
            go_wp2_with fail
            go_ret
            exact ⟨rfl, below_self HBW.out HI4.out⟩
          · have g2i : ¬ (20 : Int) < (dn : Int) := by omega
            have g2b : decide ((20 : Int) < (dn : Int)) = false := by simpa using g2i
            refine (hdn _ HI3).out.mono ?_
            rintro e wq4 ⟨rfl, hb⟩
            have HI4 := Aside.mk (below_self HI3.out hb)
            clear hb
            obtain ⟨i0, i1, i2, i3, i4, i5, j0, j1, j2, j3, j4, j5, l0, l1, l2, m0, m1, n0, n1, n2, n3, n4, n5, o0, o1, o2, o3, o4, o5, p0, p1, p2, p3, p4, p5⟩ := hcl _ HI4
            go_wp2_with fail
            by_cases g3 : 200 < sa
            · refine (hsa _ HI4).out.mono ?_
              rintro e wq5 ⟨rfl, hb⟩
              have HI5 := Aside.mk (below_self HI4.out hb)
              clear hb
              go_wp2_with fail
              go_ret
              exact ⟨rfl, below_self HBW.out HI5.out⟩
            · have g3b : decide (200 < sa) = false := by simpa using g3
              have g4 : 200 < sn := by omega
              refine (hsa _ HI4).out.mono ?_
              rintro e wq5 ⟨rfl, hb⟩
              have HI5 := Aside.mk (below_self HI4.out hb)
              clear hb
              obtain ⟨i0, i1, i2, i3, i4, i5, j0, j1, j2, j3, j4, j5, l0, l1, l2, m0, m1, n0, n1, n2, n3, n4, n5, o0, o1, o2, o3, o4, o5, p0, p1, p2, p3, p4, p5⟩ := hcl _ HI5
              go_wp2_with fail
              refine (hsn _ HI5).out.mono ?_
              rintro e wq6 ⟨rfl, hb⟩
              have HI6 := Aside.mk (below_self HI5.out hb)
              clear hb
              go_wp2_with fail
              go_ret
              exact ⟨rfl, below_self HBW.out HI6.out⟩
      | true =>
        simp only [errOf, if_true] at hca
        refine (hca _ HI1).out.mono ?_
        rintro e wq2 ⟨rfl, hb⟩
        have HI2 := Aside.mk (below_self HI1.out hb)
        clear hb
        obtain ⟨i0, i1, i2, i3, i4, i5, j0, j1, j2, j3, j4, j5, l0, l1, l2, m0, m1, n0, n1, n2, n3, n4, n5, o0, o1, o2, o3, o4, o5, p0, p1, p2, p3, p4, p5⟩ := hcl _ HI2
        go_wp2_with fail
        cases on with
        | false =>
          have hbad := p4 rfl
          simp only [errOf, Bool.false_eq_true, if_false] at hcn
          refine (hcn _ HI2).out.mono ?_
          rintro e wq3 ⟨rfl, hb⟩
          have HI3 := Aside.mk (below_self HI2.out hb)
          clear hb
          obtain ⟨i0, i1, i2, i3, i4, i5, j0, j1, j2, j3, j4, j5, l0, l1, l2, m0, m1, n0, n1, n2, n3, n4, n5, o0, o1, o2, o3, o4, o5, p0, p1, p2, p3, p4, p5⟩ := hcl _ HI3
          go_wp2_with fail
          by_cases g1 : 20 < da
          · have g1i : (20 : Int) < (da : Int) := by omega
            refine (hda _ HI3).out.mono ?_
            rintro e wq4 ⟨rfl, hb⟩
            have HI4 := Aside.mk (below_self HI3.out hb)
            clear hb
            go_wp2_with fail
            go_ret
            exact ⟨rfl, below_self HBW.out HI4.out⟩
          · have g1i : ¬ (20 : Int) < (da : Int) := by omega
            have g1b : decide ((20 : Int) < (da : Int)) = false := by simpa using g1i
            refine (hda _ HI3).out.mono ?_
            rintro e wq4 ⟨rfl, hb⟩
            have HI4 := Aside.mk (below_self HI3.out hb)
            clear hb
            obtain ⟨i0, i1, i2, i3, i4, i5, j0, j1, j2, j3, j4, j5, l0, l1, l2, m0, m1, n0, n1, n2, n3, n4, n5, o0, o1, o2, o3, o4, o5, p0, p1, p2, p3, p4, p5⟩ := hcl _ HI4
            go_wp2_with fail
            by_cases g2 : 20 < dn
            · have g2i : (20 : Int) < (dn : Int) := by omega
              refine (hdn _ HI4).out.mono ?_
              rintro e wq5 ⟨rfl, hb⟩
              have HI5 := Aside.mk (below_self HI4.out hb)
              clear hb
              go_wp2_with fail
              go_ret
              exact ⟨rfl, below_self HBW.out HI5.out⟩
            · have g2i : ¬ (20 : Int) < (dn : Int) := by omega
              have g2b : decide ((20 : Int) < (dn : Int)) = false := by simpa using g2i
              refine (hdn _ HI4).out.mono ?_
              rintro e wq5 ⟨rfl, hb⟩
              have HI5 := Aside.mk (below_self HI4.out hb)
              clear hb
              obtain ⟨i0, i1, i2, i3, i4, i5, j0, j1, j2, j3, j4, j5, l0, l1, l2, m0, m1, n0, n1, n2, n3, n4, n5, o0, o1, o2, o3, o4, o5, p0, p1, p2, p3, p4, p5⟩ := hcl _ HI5
              go_wp2_with fail
              by_cases g3 : 200 < sa
              · refine (hsa _ HI5).out.mono ?_
                rintro e wq6 ⟨rfl, hb⟩
                have HI6 := Aside.mk (below_self HI5.out hb)
                clear hb
                go_wp2_with fail
                go_ret
                exact ⟨rfl, below_self HBW.out HI6.out⟩
              · have g3b : decide (200 < sa) = false := by simpa using g3
                have g4 : 200 < sn := by omega
                refine (hsa _ HI5).out.mono ?_
                rintro e wq6 ⟨rfl, hb⟩
                have HI6 := Aside.mk (below_self HI5.out hb)
                clear hb
                obtain ⟨i0, i1, i2, i3, i4, i5, j0, j1, j2, j3, j4, j5, l0, l1, l2, m0, m1, n0, n1, n2, n3, n4, n5, o0, o1, o2, o3, o4, o5, p0, p1, p2, p3, p4, p5⟩ := hcl _ HI6
                go_wp2_with fail
                refine (hsn _ HI6).out.mono ?_
                rintro e wq7 ⟨rfl, hb⟩
                have HI7 := Aside.mk (below_self HI6.out hb)
                clear hb
                go_wp2_with fail
                go_ret
                exact ⟨rfl, below_self HBW.out HI7.out⟩
        | true =>
          simp only [errOf, if_true] at hcn
          refine (hcn _ HI2).out.mono ?_
          rintro e wq3 ⟨rfl, hb⟩
          have HI3 := Aside.mk (below_self HI2.out hb)
          clear hb
          obtain ⟨i0, i1, i2, i3, i4, i5, j0, j1, j2, j3, j4, j5, l0, l1, l2, m0, m1, n0, n1, n2, n3, n4, n5, o0, o1, o2, o3, o4, o5, p0, p1, p2, p3, p4, p5⟩ := hcl _ HI3
          go_wp2_with fail
          cases p <;> cases q
          all_goals
            simp only [Bool.and_true, Bool.and_false, Bool.true_and, Bool.false_and, Bool.or_true, Bool.or_false, Bool.true_or, Bool.false_or, Bool.not_true, Bool.not_false] at hha hho hhn
            refine (hha _ HI3).out.mono ?_
            rintro e wq4 ⟨rfl, hb⟩
            have HI4 := Aside.mk (below_self HI3.out hb)
            clear hb
            obtain ⟨i0, i1, i2, i3, i4, i5, j0, j1, j2, j3, j4, j5, l0, l1, l2, m0, m1, n0, n1, n2, n3, n4, n5, o0, o1, o2, o3, o4, o5, p0, p1, p2, p3, p4, p5⟩ := hcl _ HI4
            go_wp2_with fail
            refine (hho _ HI4).out.mono ?_
            rintro e wq5 ⟨rfl, hb⟩
            have HI5 := Aside.mk (below_self HI4.out hb)
            clear hb
            obtain ⟨i0, i1, i2, i3, i4, i5, j0, j1, j2, j3, j4, j5, l0, l1, l2, m0, m1, n0, n1, n2, n3, n4, n5, o0, o1, o2, o3, o4, o5, p0, p1, p2, p3, p4, p5⟩ := hcl _ HI5
            go_wp2_with fail
            refine (hhn _ HI5).out.mono ?_
            rintro e wq6 ⟨rfl, hb⟩
            have HI6 := Aside.mk (below_self HI5.out hb)
            clear hb
            go_wp2_with fail
            go_ret
            exact ⟨rfl, below_self HBW.out HI6.out⟩
    · have okb0 : okF ft.Dims.length ft.Meas.length y = false := by simpa using okb
      rw [okb0] at hcb
      simp only [errOf, Bool.false_eq_true, if_false] at hcb
      refine (hcb _ HI5).out.mono ?_
      rintro e wq6 ⟨rfl, hb⟩
      have HI6 := Aside.mk (below_self HI5.out hb)
      clear hb
      go_wp2_with fail
      go_ret
      exact ⟨rfl, below_self HBW.out HI6.out⟩
  · have oka0 : okF ft.Dims.length ft.Meas.length x = false := by simpa using oka
    rw [oka0] at hca
    simp only [errOf, Bool.false_eq_true, if_false] at hca
    refine (hca _ HI4).out.mono ?_
    rintro e wq5 ⟨rfl, hb⟩
    have HI5 := Aside.mk (below_self HI4.out hb)
    clear hb
    go_wp2_with fail
    go_ret
    exact ⟨rfl, below_self HBW.out HI5.out⟩
end Go.Proofs.Ytddjbhphhhdnfaa.K
