/- The law FilterNots, walked: it returns true. No condition. -/
import Derived.Test.YtddjbhphhhdnfaaL3
import Derived.Test.YtddjbhphhhdnfaaG10
namespace Go.Proofs.Ytddjbhphhhdnfaa.K
open Go.RowKit
set_option linter.unusedVariables false
set_option linter.unusedSimpArgs false

theorem blk6 {w W : World} {g : Nat} {t : TypeId} {a b c d e f : Value} (h : w.heap[g]? = some (.cells #[a, b, c, d, e, f] t (0, 0))) (hb : Below w.heap.size w W) : W.cell? ⟨g, 0, none⟩ = some a ∧ W.cell? ⟨g, 1, none⟩ = some b ∧ W.cell? ⟨g, 2, none⟩ = some c ∧ W.cell? ⟨g, 3, none⟩ = some d ∧ W.cell? ⟨g, 4, none⟩ = some e ∧ W.cell? ⟨g, 5, none⟩ = some f := by
  obtain ⟨i0, i1, i2, i3, i4, i5, _⟩ := cells6 (blk_below h hb)
  exact ⟨i0, i1, i2, i3, i4, i5⟩
theorem blk3 {w W : World} {g : Nat} {t : TypeId} {a b c : Value} (h : w.heap[g]? = some (.cells #[a, b, c] t (0, 0))) (hb : Below w.heap.size w W) : W.cell? ⟨g, 0, none⟩ = some a ∧ W.cell? ⟨g, 1, none⟩ = some b ∧ W.cell? ⟨g, 2, none⟩ = some c := by
  obtain ⟨i0, i1, i2, _⟩ := cells3 (blk_below h hb)
  exact ⟨i0, i1, i2⟩
theorem wrap_succ (n : Nat) (h : n ≤ 1000) : IntKind.i64.wrap ((n : Int) + 1) = (n : Int) + 1 := by
  have h2 : (n : Int) ≤ 1000 := by omega
  rw [IntWalk.i64_left, IntWalk.wrap64_in _ ⟨by omega, by omega⟩]
theorem one_known {w W : World} {o : Obj} (hW : w.alloc o = W) : W.heap[w.heap.size]? = some o ∧ Below w.heap.size w W := by
  subst hW
  exact ⟨blk_new w o, below_alloc (Below.refl _ w) _⟩

/-- What the law needs to know of a filter, its turned one, and that one turned. -/
theorem nots_plain (ft : Fact) (D M : Int) (x : Filter) (hok : okF D M x = true) :
    depthF x ≤ 20 ∧ depthF (turnF true x) ≤ depthF x + 1 ∧ holdsF ft (turnF true x) = !holdsF ft x ∧
    (okF D M (turnF true x) = false → 200 < sizeF (turnF true x) ∨ 20 < depthF (turnF true x)) ∧
    (okF D M (turnF true x) = true → holdsF ft (turnF true (turnF true x)) = holdsF ft x) := by
  obtain ⟨hs, hp, hd⟩ := (ok_iff D M x).1 hok
  have h1 := turn_depth x true
  simp only [if_true] at h1
  have h2 : holdsF ft (turnF true x) = !holdsF ft x := by rw [turn_holds ft D M x hs hp true]; simp
  refine ⟨hd, h1, h2, fun hn => ?_, fun hn => ?_⟩
  · have hpn := turn_allP D M x hs hp true
    refine Decidable.byContradiction fun hc => ?_
    have : okF D M (turnF true x) = true := (ok_iff _ _ _).2 ⟨sizeF_le.1 (by omega), hpn, by omega⟩
    rw [this] at hn
    cases hn
  · obtain ⟨hs2, hp2, _⟩ := (ok_iff D M _).1 hn
    rw [turn_holds ft D M _ hs2 hp2 true, h2]
    simp

set_option maxHeartbeats 3000000 in
set_option maxRecDepth 100000 in
theorem law_nots (w : World) (x : Filter) (cs : List Value) (h : kFilter.K w Any x cs) (ft : Fact) (fs : List Value) (hf : kFact.K w Any ft fs) :
    Calls Try.prog 4 #[.agg cs.toArray, .agg fs.toArray] w fun e w' => e = .returned (.bool true) ∧ Below w.heap.size w w' := by
  have hx := h
  obtain ⟨A0, c0, A1, c1, rfl, q0, q1, q2, q3, q4, q5⟩ := kFilter_open h
  have hft := hf
  obtain ⟨B0, d0, B1, d1, rfl, r0, r1, r2⟩ := kFact_open hf
  have HX := Aside.mk hx
  have HF := Aside.mk hft
  clear h hf q0 q1 q2 q3 q4 q5 r0 r1 r2 hx hft
  go_enter Try.func4, Try.ntmps4
  go_wp2_with fail
  generalize hW : (w.alloc _).alloc _ = W
  obtain ⟨b1, b2, hbel⟩ := two_known hW
  have HBW := Aside.mk hbel
  have HX := Aside.mk (Kd.below HX.out hbel)
  have HF := Aside.mk (Kd.below HF.out hbel)
  have HP1 := Aside.mk b1
  have HP2 := Aside.mk b2
  clear hW b1 b2 hbel
  have hcl : ∀ W', Aside (Below W.heap.size W W') → (fun W => W.cell? ⟨w.heap.size, 0, none⟩ = some (.int .i64 x.Kind) ∧ W.cell? ⟨w.heap.size, 1, none⟩ = some (.int .i64 x.Dim) ∧ W.cell? ⟨w.heap.size, 2, none⟩ = some (.slice A0 x.Texts.length c0) ∧ W.cell? ⟨w.heap.size, 3, none⟩ = some (.int .i64 x.Lo) ∧ W.cell? ⟨w.heap.size, 4, none⟩ = some (.int .i64 x.Hi) ∧ W.cell? ⟨w.heap.size, 5, none⟩ = some (.slice A1 x.Kids.length c1) ∧ W.cell? ⟨w.heap.size + 1, 0, none⟩ = some (.int .i64 ft.Time) ∧ W.cell? ⟨w.heap.size + 1, 1, none⟩ = some (.slice B0 ft.Dims.length d0) ∧ W.cell? ⟨w.heap.size + 1, 2, none⟩ = some (.slice B1 ft.Meas.length d1)) W' := fun W' I => by
    obtain ⟨i0, i1, i2, i3, i4, i5⟩ := blk6 HP1.out I.out
    obtain ⟨l0, l1, l2⟩ := blk3 HP2.out I.out
    exact ⟨i0, i1, i2, i3, i4, i5, l0, l1, l2⟩
  have hsc := fun W' (I : Aside (Below W.heap.size W W')) => Aside.mk (schema_any ft _ W' (Kd.below HF.out I.out))
  have hch := fun W' (I : Aside (Below W.heap.size W W')) => Aside.mk (check_any ft.Dims.length ft.Meas.length x _ W' (Kd.below HX.out I.out))
  have hnot := fun W' (I : Aside (Below W.heap.size W W')) => Aside.mk (not_any x _ W' (Kd.below HX.out I.out))
  refine (awake_any W).mono ?_
  rintro e w2 ⟨rfl, hb⟩
  have HI2 := Aside.mk hb
  clear hb
  go_wp2_with fail
  have HI2 := Aside.mk HI2.out.drew
  by_cases hok : okF ft.Dims.length ft.Meas.length x = true
  · have HPL := Aside.mk (nots_plain ft _ _ x hok)
    rw [hok] at hch
    simp only [errOf, if_true] at hch
    go_region_held3 (fun W => W.cell? ⟨w.heap.size, 0, none⟩ = some (.int .i64 x.Kind) ∧ W.cell? ⟨w.heap.size, 1, none⟩ = some (.int .i64 x.Dim) ∧ W.cell? ⟨w.heap.size, 2, none⟩ = some (.slice A0 x.Texts.length c0) ∧ W.cell? ⟨w.heap.size, 3, none⟩ = some (.int .i64 x.Lo) ∧ W.cell? ⟨w.heap.size, 4, none⟩ = some (.int .i64 x.Hi) ∧ W.cell? ⟨w.heap.size, 5, none⟩ = some (.slice A1 x.Kids.length c1) ∧ W.cell? ⟨w.heap.size + 1, 0, none⟩ = some (.int .i64 ft.Time) ∧ W.cell? ⟨w.heap.size + 1, 1, none⟩ = some (.slice B0 ft.Dims.length d0) ∧ W.cell? ⟨w.heap.size + 1, 2, none⟩ = some (.slice B1 ft.Meas.length d1)) (exact hcl _ (by assumption)) (first | (go_at_call 10; refine (hch _ HI3).out.mono ?_; rintro e wq4 ⟨rfl, hb⟩; have HI4 := Aside.mk (below_self HI3.out hb); clear hb) | (go_at_call 9; refine (hsc _ HI2).out.mono ?_; rintro e wq3 ⟨rfl, hb⟩; have HI3 := Aside.mk (below_self HI2.out hb); clear hb))
    obtain ⟨i0, i1, i2, i3, i4, i5, l0, l1, l2⟩ := hcl _ HI4
    clear hok
    go_wp2_with fail
    refine (hnot _ HI4).out.mono ?_
    generalize turnF true x = y at HPL ⊢
    rintro e w5 ⟨cs5, rfl, hK5, hb5⟩
    have HK5 := Aside.mk (Kd.any hK5)
    obtain ⟨E0, f0, E1, f1, rfl, p0, p1, p2, p3, p4, p5⟩ := kFilter_open hK5
    have HI5 := Aside.mk (below_self HI4.out hb5)
    clear p0 p1 p2 p3 p4 p5 hK5 hb5 i0 i1 i2 i3 i4 i5 l0 l1 l2 hcl hsc hch hnot
    go_wp2_with fail
    generalize hWb : w5.alloc _ = wb
    obtain ⟨b3, hbb⟩ := one_known hWb
    have HIb := Aside.mk (below_self HI5.out hbb)
    have HBW := Aside.mk (below_self HBW.out HIb.out)
    have HP1 := Aside.mk (blk_below HP1.out HIb.out)
    have HP2 := Aside.mk (blk_below HP2.out HIb.out)
    have HP3 := Aside.mk b3
    have HX := Aside.mk (Kd.below HX.out HIb.out)
    have HF := Aside.mk (Kd.below HF.out HIb.out)
    have HY := Aside.mk (Kd.below HK5.out hbb)
    have hd20 := HPL.out.1
    have hdn := HPL.out.2.1
    have HPQ := Aside.mk HPL.out.2.2
    clear HPL
    clear hWb b3 hbb HK5 HI5 HI4 HI3 HI2 HIb
    have hcl : ∀ W', Aside (Below wb.heap.size wb W') → (fun W => W.cell? ⟨w.heap.size, 0, none⟩ = some (.int .i64 x.Kind) ∧ W.cell? ⟨w.heap.size, 1, none⟩ = some (.int .i64 x.Dim) ∧ W.cell? ⟨w.heap.size, 2, none⟩ = some (.slice A0 x.Texts.length c0) ∧ W.cell? ⟨w.heap.size, 3, none⟩ = some (.int .i64 x.Lo) ∧ W.cell? ⟨w.heap.size, 4, none⟩ = some (.int .i64 x.Hi) ∧ W.cell? ⟨w.heap.size, 5, none⟩ = some (.slice A1 x.Kids.length c1) ∧ W.cell? ⟨w.heap.size + 1, 0, none⟩ = some (.int .i64 ft.Time) ∧ W.cell? ⟨w.heap.size + 1, 1, none⟩ = some (.slice B0 ft.Dims.length d0) ∧ W.cell? ⟨w.heap.size + 1, 2, none⟩ = some (.slice B1 ft.Meas.length d1) ∧ W.cell? ⟨w5.heap.size, 0, none⟩ = some (.int .i64 y.Kind) ∧ W.cell? ⟨w5.heap.size, 1, none⟩ = some (.int .i64 y.Dim) ∧ W.cell? ⟨w5.heap.size, 2, none⟩ = some (.slice E0 y.Texts.length f0) ∧ W.cell? ⟨w5.heap.size, 3, none⟩ = some (.int .i64 y.Lo) ∧ W.cell? ⟨w5.heap.size, 4, none⟩ = some (.int .i64 y.Hi) ∧ W.cell? ⟨w5.heap.size, 5, none⟩ = some (.slice E1 y.Kids.length f1)) W' := fun W' I => by
      obtain ⟨i0, i1, i2, i3, i4, i5⟩ := blk6 HP1.out I.out
      obtain ⟨l0, l1, l2⟩ := blk3 HP2.out I.out
      obtain ⟨j0, j1, j2, j3, j4, j5⟩ := blk6 HP3.out I.out
      exact ⟨i0, i1, i2, i3, i4, i5, l0, l1, l2, j0, j1, j2, j3, j4, j5⟩
    have hdf := fun W' (I : Aside (Below wb.heap.size wb W')) => Aside.mk (refDepth_any _ x (Nat.le_refl _) (by omega) _ W' (Kd.below HX.out I.out))
    have hdy := fun W' (I : Aside (Below wb.heap.size wb W')) => Aside.mk (refDepth_any _ y (Nat.le_refl _) (by omega) _ W' (Kd.below HY.out I.out))
    have hsz := fun W' (I : Aside (Below wb.heap.size wb W')) => Aside.mk (size_any y _ W' (Kd.below HY.out I.out))
    have hsc := fun W' (I : Aside (Below wb.heap.size wb W')) => Aside.mk (schema_any ft _ W' (Kd.below HF.out I.out))
    have hch := fun W' (I : Aside (Below wb.heap.size wb W')) => Aside.mk (check_any ft.Dims.length ft.Meas.length y _ W' (Kd.below HY.out I.out))
    have hnot := fun W' (I : Aside (Below wb.heap.size wb W')) => Aside.mk (not_any y _ W' (Kd.below HY.out I.out))
    have hhx := fun W' (I : Aside (Below wb.heap.size wb W')) => Aside.mk (holds_any ft _ x (Nat.le_refl _) _ _ W' (Kd.below HX.out I.out) (Kd.below HF.out I.out))
    have hhy := fun W' (I : Aside (Below wb.heap.size wb W')) => Aside.mk (holds_any ft _ y (Nat.le_refl _) _ _ W' (Kd.below HY.out I.out) (Kd.below HF.out I.out))
    have HI2 := Aside.mk (Below.refl wb.heap.size wb).drew
    generalize depthF x = dx at *
    generalize depthF y = dy at *
    generalize sizeF y = sy at *
    have hwr : IntKind.i64.wrap ((dx : Int) + 1) = (dx : Int) + 1 := wrap_succ dx (by omega)
    have hgi : ¬ (dx : Int) + 1 < (dy : Int) := by omega
    have hgb : decide ((dx : Int) + 1 < (dy : Int)) = false := by simpa using hgi
    go_region_held3 (fun W => W.cell? ⟨w.heap.size, 0, none⟩ = some (.int .i64 x.Kind) ∧ W.cell? ⟨w.heap.size, 1, none⟩ = some (.int .i64 x.Dim) ∧ W.cell? ⟨w.heap.size, 2, none⟩ = some (.slice A0 x.Texts.length c0) ∧ W.cell? ⟨w.heap.size, 3, none⟩ = some (.int .i64 x.Lo) ∧ W.cell? ⟨w.heap.size, 4, none⟩ = some (.int .i64 x.Hi) ∧ W.cell? ⟨w.heap.size, 5, none⟩ = some (.slice A1 x.Kids.length c1) ∧ W.cell? ⟨w.heap.size + 1, 0, none⟩ = some (.int .i64 ft.Time) ∧ W.cell? ⟨w.heap.size + 1, 1, none⟩ = some (.slice B0 ft.Dims.length d0) ∧ W.cell? ⟨w.heap.size + 1, 2, none⟩ = some (.slice B1 ft.Meas.length d1) ∧ W.cell? ⟨w5.heap.size, 0, none⟩ = some (.int .i64 y.Kind) ∧ W.cell? ⟨w5.heap.size, 1, none⟩ = some (.int .i64 y.Dim) ∧ W.cell? ⟨w5.heap.size, 2, none⟩ = some (.slice E0 y.Texts.length f0) ∧ W.cell? ⟨w5.heap.size, 3, none⟩ = some (.int .i64 y.Lo) ∧ W.cell? ⟨w5.heap.size, 4, none⟩ = some (.int .i64 y.Hi) ∧ W.cell? ⟨w5.heap.size, 5, none⟩ = some (.slice E1 y.Kids.length f1)) (exact hcl _ (by assumption)) (first | (go_at_call 14; refine (hdf _ HI3).out.mono ?_; rintro e wq4 ⟨rfl, hb⟩; have HI4 := Aside.mk (below_self HI3.out hb); clear hb) | (go_at_call 14; refine (hdy _ HI2).out.mono ?_; rintro e wq3 ⟨rfl, hb⟩; have HI3 := Aside.mk (below_self HI2.out hb); clear hb))
    clear hdf
    obtain ⟨i0, i1, i2, i3, i4, i5, l0, l1, l2, j0, j1, j2, j3, j4, j5⟩ := hcl _ HI4
    go_wp2_with fail
    have HI4 := Aside.mk HI4.out.drew
    by_cases hoy : okF ft.Dims.length ft.Meas.length y = true
    · rw [hoy] at hch
      simp only [errOf, if_true] at hch
      go_region_held3 (fun W => W.cell? ⟨w.heap.size, 0, none⟩ = some (.int .i64 x.Kind) ∧ W.cell? ⟨w.heap.size, 1, none⟩ = some (.int .i64 x.Dim) ∧ W.cell? ⟨w.heap.size, 2, none⟩ = some (.slice A0 x.Texts.length c0) ∧ W.cell? ⟨w.heap.size, 3, none⟩ = some (.int .i64 x.Lo) ∧ W.cell? ⟨w.heap.size, 4, none⟩ = some (.int .i64 x.Hi) ∧ W.cell? ⟨w.heap.size, 5, none⟩ = some (.slice A1 x.Kids.length c1) ∧ W.cell? ⟨w.heap.size + 1, 0, none⟩ = some (.int .i64 ft.Time) ∧ W.cell? ⟨w.heap.size + 1, 1, none⟩ = some (.slice B0 ft.Dims.length d0) ∧ W.cell? ⟨w.heap.size + 1, 2, none⟩ = some (.slice B1 ft.Meas.length d1) ∧ W.cell? ⟨w5.heap.size, 0, none⟩ = some (.int .i64 y.Kind) ∧ W.cell? ⟨w5.heap.size, 1, none⟩ = some (.int .i64 y.Dim) ∧ W.cell? ⟨w5.heap.size, 2, none⟩ = some (.slice E0 y.Texts.length f0) ∧ W.cell? ⟨w5.heap.size, 3, none⟩ = some (.int .i64 y.Lo) ∧ W.cell? ⟨w5.heap.size, 4, none⟩ = some (.int .i64 y.Hi) ∧ W.cell? ⟨w5.heap.size, 5, none⟩ = some (.slice E1 y.Kids.length f1)) (exact hcl _ (by assumption)) (first | (go_at_call 10; refine (hch _ HI5).out.mono ?_; rintro e wq6 ⟨rfl, hb⟩; have HI6 := Aside.mk (below_self HI5.out hb); clear hb) | (go_at_call 9; refine (hsc _ HI4).out.mono ?_; rintro e wq5 ⟨rfl, hb⟩; have HI5 := Aside.mk (below_self HI4.out hb); clear hb))
      obtain ⟨i0, i1, i2, i3, i4, i5, l0, l1, l2, j0, j1, j2, j3, j4, j5⟩ := hcl _ HI6
      go_wp2_with fail
      have hhn := HPQ.out.1
      have hhz := HPQ.out.2.2 hoy
      refine (hnot _ HI6).out.mono ?_
      clear HPQ hnot
      generalize turnF true y = z at hhz ⊢
      rintro e w9 ⟨cs9, rfl, hK9, hb9⟩
      have HK9 := Aside.mk (Kd.any hK9)
      obtain ⟨E0z, f0z, E1z, f1z, rfl, p0, p1, p2, p3, p4, p5⟩ := kFilter_open hK9
      have HI9 := Aside.mk (below_self HI6.out hb9)
      clear p0 p1 p2 p3 p4 p5 hK9 hb9 i0 i1 i2 i3 i4 i5 l0 l1 l2 j0 j1 j2 j3 j4 j5 hcl hsc hch hdy hsz hhx hhy hgb hgi hwr hd20 hdn hoy
      go_wp2_with fail
      generalize hWc : w9.alloc _ = wc
      obtain ⟨b3, hbb⟩ := one_known hWc
      have HIb := Aside.mk (below_self HI9.out hbb)
      have HBW := Aside.mk (below_self HBW.out HIb.out)
      have HP1 := Aside.mk (blk_below HP1.out HIb.out)
      have HP2 := Aside.mk (blk_below HP2.out HIb.out)
      have HP3 := Aside.mk (blk_below HP3.out HIb.out)
      have HP4 := Aside.mk b3
      have HX := Aside.mk (Kd.below HX.out HIb.out)
      have HF := Aside.mk (Kd.below HF.out HIb.out)
      have HY := Aside.mk (Kd.below HY.out HIb.out)
      have HZ := Aside.mk (Kd.below HK9.out hbb)
      clear hWc b3 hbb HK9 HI9 HI6 HI5 HI4 HI3 HI2 HIb
      have hcl : ∀ W', Aside (Below wc.heap.size wc W') → (fun W => W.cell? ⟨w.heap.size, 0, none⟩ = some (.int .i64 x.Kind) ∧ W.cell? ⟨w.heap.size, 1, none⟩ = some (.int .i64 x.Dim) ∧ W.cell? ⟨w.heap.size, 2, none⟩ = some (.slice A0 x.Texts.length c0) ∧ W.cell? ⟨w.heap.size, 3, none⟩ = some (.int .i64 x.Lo) ∧ W.cell? ⟨w.heap.size, 4, none⟩ = some (.int .i64 x.Hi) ∧ W.cell? ⟨w.heap.size, 5, none⟩ = some (.slice A1 x.Kids.length c1) ∧ W.cell? ⟨w.heap.size + 1, 0, none⟩ = some (.int .i64 ft.Time) ∧ W.cell? ⟨w.heap.size + 1, 1, none⟩ = some (.slice B0 ft.Dims.length d0) ∧ W.cell? ⟨w.heap.size + 1, 2, none⟩ = some (.slice B1 ft.Meas.length d1) ∧ W.cell? ⟨w5.heap.size, 0, none⟩ = some (.int .i64 y.Kind) ∧ W.cell? ⟨w5.heap.size, 1, none⟩ = some (.int .i64 y.Dim) ∧ W.cell? ⟨w5.heap.size, 2, none⟩ = some (.slice E0 y.Texts.length f0) ∧ W.cell? ⟨w5.heap.size, 3, none⟩ = some (.int .i64 y.Lo) ∧ W.cell? ⟨w5.heap.size, 4, none⟩ = some (.int .i64 y.Hi) ∧ W.cell? ⟨w5.heap.size, 5, none⟩ = some (.slice E1 y.Kids.length f1) ∧ W.cell? ⟨w9.heap.size, 0, none⟩ = some (.int .i64 z.Kind) ∧ W.cell? ⟨w9.heap.size, 1, none⟩ = some (.int .i64 z.Dim) ∧ W.cell? ⟨w9.heap.size, 2, none⟩ = some (.slice E0z z.Texts.length f0z) ∧ W.cell? ⟨w9.heap.size, 3, none⟩ = some (.int .i64 z.Lo) ∧ W.cell? ⟨w9.heap.size, 4, none⟩ = some (.int .i64 z.Hi) ∧ W.cell? ⟨w9.heap.size, 5, none⟩ = some (.slice E1z z.Kids.length f1z)) W' := fun W' I => by
        obtain ⟨i0, i1, i2, i3, i4, i5⟩ := blk6 HP1.out I.out
        obtain ⟨l0, l1, l2⟩ := blk3 HP2.out I.out
        obtain ⟨j0, j1, j2, j3, j4, j5⟩ := blk6 HP3.out I.out
        obtain ⟨m0, m1, m2, m3, m4, m5⟩ := blk6 HP4.out I.out
        exact ⟨i0, i1, i2, i3, i4, i5, l0, l1, l2, j0, j1, j2, j3, j4, j5, m0, m1, m2, m3, m4, m5⟩
      have hsc := fun W' (I : Aside (Below wc.heap.size wc W')) => Aside.mk (schema_any ft _ W' (Kd.below HF.out I.out))
      have hch := fun W' (I : Aside (Below wc.heap.size wc W')) => Aside.mk (check_any ft.Dims.length ft.Meas.length z _ W' (Kd.below HZ.out I.out))
      have hhx := fun W' (I : Aside (Below wc.heap.size wc W')) => Aside.mk (holds_any ft _ x (Nat.le_refl _) _ _ W' (Kd.below HX.out I.out) (Kd.below HF.out I.out))
      have hhy := fun W' (I : Aside (Below wc.heap.size wc W')) => Aside.mk (holds_any ft _ y (Nat.le_refl _) _ _ W' (Kd.below HY.out I.out) (Kd.below HF.out I.out))
      have hhz' := fun W' (I : Aside (Below wc.heap.size wc W')) => Aside.mk (holds_any ft _ z (Nat.le_refl _) _ _ W' (Kd.below HZ.out I.out) (Kd.below HF.out I.out))
      rw [hhn] at hhy
      rw [hhz] at hhz'
      clear hhn hhz
      have HI2 := Aside.mk (Below.refl wc.heap.size wc).drew
      generalize holdsF ft x = r at *
      generalize hq : okF ft.Dims.length ft.Meas.length z = q at *
      cases q
      · cases r
        all_goals
          simp only [Bool.not_true, Bool.not_false] at hhy
          simp only [errOf, Bool.false_eq_true, if_false, if_true] at hch
          go_region_held3 (fun W => W.cell? ⟨w.heap.size, 0, none⟩ = some (.int .i64 x.Kind) ∧ W.cell? ⟨w.heap.size, 1, none⟩ = some (.int .i64 x.Dim) ∧ W.cell? ⟨w.heap.size, 2, none⟩ = some (.slice A0 x.Texts.length c0) ∧ W.cell? ⟨w.heap.size, 3, none⟩ = some (.int .i64 x.Lo) ∧ W.cell? ⟨w.heap.size, 4, none⟩ = some (.int .i64 x.Hi) ∧ W.cell? ⟨w.heap.size, 5, none⟩ = some (.slice A1 x.Kids.length c1) ∧ W.cell? ⟨w.heap.size + 1, 0, none⟩ = some (.int .i64 ft.Time) ∧ W.cell? ⟨w.heap.size + 1, 1, none⟩ = some (.slice B0 ft.Dims.length d0) ∧ W.cell? ⟨w.heap.size + 1, 2, none⟩ = some (.slice B1 ft.Meas.length d1) ∧ W.cell? ⟨w5.heap.size, 0, none⟩ = some (.int .i64 y.Kind) ∧ W.cell? ⟨w5.heap.size, 1, none⟩ = some (.int .i64 y.Dim) ∧ W.cell? ⟨w5.heap.size, 2, none⟩ = some (.slice E0 y.Texts.length f0) ∧ W.cell? ⟨w5.heap.size, 3, none⟩ = some (.int .i64 y.Lo) ∧ W.cell? ⟨w5.heap.size, 4, none⟩ = some (.int .i64 y.Hi) ∧ W.cell? ⟨w5.heap.size, 5, none⟩ = some (.slice E1 y.Kids.length f1) ∧ W.cell? ⟨w9.heap.size, 0, none⟩ = some (.int .i64 z.Kind) ∧ W.cell? ⟨w9.heap.size, 1, none⟩ = some (.int .i64 z.Dim) ∧ W.cell? ⟨w9.heap.size, 2, none⟩ = some (.slice E0z z.Texts.length f0z) ∧ W.cell? ⟨w9.heap.size, 3, none⟩ = some (.int .i64 z.Lo) ∧ W.cell? ⟨w9.heap.size, 4, none⟩ = some (.int .i64 z.Hi) ∧ W.cell? ⟨w9.heap.size, 5, none⟩ = some (.slice E1z z.Kids.length f1z)) (exact hcl _ (by assumption)) (first | (go_at_call 11; refine (hhx _ HI3).out.mono ?_; rintro e wq4 ⟨rfl, hb⟩; have HI4 := Aside.mk (below_self HI3.out hb); clear hb) | (go_at_call 11; refine (hhy _ HI2).out.mono ?_; rintro e wq3 ⟨rfl, hb⟩; have HI3 := Aside.mk (below_self HI2.out hb); clear hb))
          obtain ⟨i0, i1, i2, i3, i4, i5, l0, l1, l2, j0, j1, j2, j3, j4, j5, m0, m1, m2, m3, m4, m5⟩ := hcl _ HI4
          go_wp2_with fail
          have HI4 := Aside.mk HI4.out.drew
          refine wp_region_held_drew (S := (fun W => W.cell? ⟨w.heap.size, 0, none⟩ = some (.int .i64 x.Kind) ∧ W.cell? ⟨w.heap.size, 1, none⟩ = some (.int .i64 x.Dim) ∧ W.cell? ⟨w.heap.size, 2, none⟩ = some (.slice A0 x.Texts.length c0) ∧ W.cell? ⟨w.heap.size, 3, none⟩ = some (.int .i64 x.Lo) ∧ W.cell? ⟨w.heap.size, 4, none⟩ = some (.int .i64 x.Hi) ∧ W.cell? ⟨w.heap.size, 5, none⟩ = some (.slice A1 x.Kids.length c1) ∧ W.cell? ⟨w.heap.size + 1, 0, none⟩ = some (.int .i64 ft.Time) ∧ W.cell? ⟨w.heap.size + 1, 1, none⟩ = some (.slice B0 ft.Dims.length d0) ∧ W.cell? ⟨w.heap.size + 1, 2, none⟩ = some (.slice B1 ft.Meas.length d1) ∧ W.cell? ⟨w5.heap.size, 0, none⟩ = some (.int .i64 y.Kind) ∧ W.cell? ⟨w5.heap.size, 1, none⟩ = some (.int .i64 y.Dim) ∧ W.cell? ⟨w5.heap.size, 2, none⟩ = some (.slice E0 y.Texts.length f0) ∧ W.cell? ⟨w5.heap.size, 3, none⟩ = some (.int .i64 y.Lo) ∧ W.cell? ⟨w5.heap.size, 4, none⟩ = some (.int .i64 y.Hi) ∧ W.cell? ⟨w5.heap.size, 5, none⟩ = some (.slice E1 y.Kids.length f1) ∧ W.cell? ⟨w9.heap.size, 0, none⟩ = some (.int .i64 z.Kind) ∧ W.cell? ⟨w9.heap.size, 1, none⟩ = some (.int .i64 z.Dim) ∧ W.cell? ⟨w9.heap.size, 2, none⟩ = some (.slice E0z z.Texts.length f0z) ∧ W.cell? ⟨w9.heap.size, 3, none⟩ = some (.int .i64 z.Lo) ∧ W.cell? ⟨w9.heap.size, 4, none⟩ = some (.int .i64 z.Hi) ∧ W.cell? ⟨w9.heap.size, 5, none⟩ = some (.slice E1z z.Kids.length f1z))) (by kernel_rfl) (hcl _ HI4) (fun hHeld => ?_)
          try simp only [Act.put, List.setIfInBounds_toArray, List.set_cons_zero, List.set_cons_succ]
          refine wpAnyH_take (i := 0) (oi := _) (v := ?_) rfl (by kernel_rfl) (by kernel_rfl) (by kernel_rfl) (fun _ _ _ h => h) (Or.inl ⟨by rfl, ?_⟩) (by assumption) ?_
          rotate_left
          · intro wv hSw
            try dsimp only at hSw
            go_simp
            with_reducible rfl
          try simp only [Act.put, List.setIfInBounds_toArray, List.set_cons_zero, List.set_cons_succ]
          refine wpAnyH_take (i := 2) (oi := _) (v := ?_) rfl (by kernel_rfl) (by kernel_rfl) (by kernel_rfl) (fun _ _ _ h => h) (Or.inl ⟨by rfl, ?_⟩) (by assumption) ?_
          rotate_left
          · intro wv hSw
            try dsimp only at hSw
            go_simp
            with_reducible rfl
          try simp only [Act.put, List.setIfInBounds_toArray, List.set_cons_zero, List.set_cons_succ]
          refine wpAnyH_ready (rs := [1]) (by kernel_rfl) (by simp) ?_
          refine AllReadyH.cons (o := _) rfl (fun K hK => ?_) AllReadyH.nil
          go_simp
          refine (hsc _ HI4).out.mono ?_
          rintro e wq5 ⟨rfl, hb⟩
          have HI5 := Aside.mk (below_self HI4.out hb)
          clear hb
          refine hK.out _ _ (hcl _ HI5) (fun hHeld => ?_)
          clear hK K
          try simp only [Act.put, List.setIfInBounds_toArray, List.set_cons_zero, List.set_cons_succ]
          refine wpAnyH_ready (rs := [3]) (by kernel_rfl) (by simp) ?_
          refine AllReadyH.cons (o := _) rfl (fun K hK => ?_) AllReadyH.nil
          go_simp
          refine (hch _ HI5).out.mono ?_
          rintro e wq6 ⟨rfl, hb⟩
          have HI6 := Aside.mk (below_self HI5.out hb)
          clear hb
          refine hK.out _ _ (hcl _ HI6) (fun hHeld => ?_)
          clear hK K
          try simp only [Act.put, List.setIfInBounds_toArray, List.set_cons_zero, List.set_cons_succ]
          refine wpAnyH_take (i := 4) (oi := _) (v := ?_) rfl (by kernel_rfl) (by kernel_rfl) (by kernel_rfl) (fun _ _ _ h => h) (Or.inl ⟨by rfl, ?_⟩) (by assumption) ?_
          rotate_left
          · intro wv hSw
            try dsimp only at hSw
            go_simp
            with_reducible rfl
          try simp only [Act.put, List.setIfInBounds_toArray, List.set_cons_zero, List.set_cons_succ]
          refine wpAnyH_take (i := 5) (oi := _) (v := ?_) rfl (by kernel_rfl) (by kernel_rfl) (by kernel_rfl) (fun _ _ _ h => h) (Or.inl ⟨by rfl, ?_⟩) (by assumption) ?_
          rotate_left
          · intro wv hSw
            try dsimp only at hSw
            go_simp
            with_reducible rfl
          try simp only [Act.put, List.setIfInBounds_toArray, List.set_cons_zero, List.set_cons_succ]
          refine wpAnyH_take (i := 6) (oi := _) (v := undef) rfl (by kernel_rfl) (by kernel_rfl) (by kernel_rfl) (fun _ _ _ h => h) (Or.inr ⟨by kernel_rfl, rfl⟩) (by assumption) ?_
          try simp only [Act.put, List.setIfInBounds_toArray, List.set_cons_zero, List.set_cons_succ]
          refine wpAnyH_take (i := 7) (oi := _) (v := undef) rfl (by kernel_rfl) (by kernel_rfl) (by kernel_rfl) (fun _ _ _ h => h) (Or.inr ⟨by kernel_rfl, rfl⟩) (by assumption) ?_
          try simp only [Act.put, List.setIfInBounds_toArray, List.set_cons_zero, List.set_cons_succ]
          refine wpAnyH_take (i := 8) (oi := _) (v := undef) rfl (by kernel_rfl) (by kernel_rfl) (by kernel_rfl) (fun _ _ _ h => h) (Or.inr ⟨by kernel_rfl, rfl⟩) (by assumption) ?_
          try simp only [Act.put, List.setIfInBounds_toArray, List.set_cons_zero, List.set_cons_succ]
          refine wpAnyH_take (i := 9) (oi := _) (v := undef) rfl (by kernel_rfl) (by kernel_rfl) (by kernel_rfl) (fun _ _ _ h => h) (Or.inr ⟨by kernel_rfl, rfl⟩) (by assumption) ?_
          try simp only [Act.put, List.setIfInBounds_toArray, List.set_cons_zero, List.set_cons_succ]
          refine wpAnyH_take (i := 10) (oi := _) (v := undef) rfl (by kernel_rfl) (by kernel_rfl) (by kernel_rfl) (fun _ _ _ h => h) (Or.inr ⟨by kernel_rfl, rfl⟩) (by assumption) ?_
          try simp only [Act.put, List.setIfInBounds_toArray, List.set_cons_zero, List.set_cons_succ]
          refine wpAnyH_take (i := 11) (oi := _) (v := undef) rfl (by kernel_rfl) (by kernel_rfl) (by kernel_rfl) (fun _ _ _ h => h) (Or.inr ⟨by kernel_rfl, rfl⟩) (by assumption) ?_
          try simp only [Act.put, List.setIfInBounds_toArray, List.set_cons_zero, List.set_cons_succ]
          refine wpAnyH_take (i := 12) (oi := _) (v := undef) rfl (by kernel_rfl) (by kernel_rfl) (by kernel_rfl) (fun _ _ _ h => h) (Or.inr ⟨by kernel_rfl, rfl⟩) (by assumption) ?_
          try simp only [Act.put, List.setIfInBounds_toArray, List.set_cons_zero, List.set_cons_succ]
          refine wpAnyH_take (i := 13) (oi := _) (v := ?_) rfl (by kernel_rfl) (by kernel_rfl) (by kernel_rfl) (fun _ _ _ h => h) (Or.inl ⟨by rfl, ?_⟩) (by assumption) ?_
          rotate_left
          · intro wv hSw
            try dsimp only at hSw
            go_simp
            with_reducible rfl
          try simp only [Act.put, List.setIfInBounds_toArray, List.set_cons_zero, List.set_cons_succ]
          refine wpAnyH_take (i := 14) (oi := _) (v := ?_) rfl (by kernel_rfl) (by kernel_rfl) (by kernel_rfl) (fun _ _ _ h => h) (Or.inl ⟨by rfl, ?_⟩) (by assumption) ?_
          rotate_left
          · intro wv hSw
            try dsimp only at hSw
            go_simp
            with_reducible rfl
          try simp only [Act.put, List.setIfInBounds_toArray, List.set_cons_zero, List.set_cons_succ]
          refine wpAnyH_done (by kernel_rfl) ?_ _
          go_simp
          go_wp2
          go_ret
          exact ⟨rfl, below_self HBW.out HI6.out⟩
      · cases r
        all_goals
          simp only [Bool.not_true, Bool.not_false] at hhy
          simp only [errOf, Bool.false_eq_true, if_false, if_true] at hch
          go_region_held3 (fun W => W.cell? ⟨w.heap.size, 0, none⟩ = some (.int .i64 x.Kind) ∧ W.cell? ⟨w.heap.size, 1, none⟩ = some (.int .i64 x.Dim) ∧ W.cell? ⟨w.heap.size, 2, none⟩ = some (.slice A0 x.Texts.length c0) ∧ W.cell? ⟨w.heap.size, 3, none⟩ = some (.int .i64 x.Lo) ∧ W.cell? ⟨w.heap.size, 4, none⟩ = some (.int .i64 x.Hi) ∧ W.cell? ⟨w.heap.size, 5, none⟩ = some (.slice A1 x.Kids.length c1) ∧ W.cell? ⟨w.heap.size + 1, 0, none⟩ = some (.int .i64 ft.Time) ∧ W.cell? ⟨w.heap.size + 1, 1, none⟩ = some (.slice B0 ft.Dims.length d0) ∧ W.cell? ⟨w.heap.size + 1, 2, none⟩ = some (.slice B1 ft.Meas.length d1) ∧ W.cell? ⟨w5.heap.size, 0, none⟩ = some (.int .i64 y.Kind) ∧ W.cell? ⟨w5.heap.size, 1, none⟩ = some (.int .i64 y.Dim) ∧ W.cell? ⟨w5.heap.size, 2, none⟩ = some (.slice E0 y.Texts.length f0) ∧ W.cell? ⟨w5.heap.size, 3, none⟩ = some (.int .i64 y.Lo) ∧ W.cell? ⟨w5.heap.size, 4, none⟩ = some (.int .i64 y.Hi) ∧ W.cell? ⟨w5.heap.size, 5, none⟩ = some (.slice E1 y.Kids.length f1) ∧ W.cell? ⟨w9.heap.size, 0, none⟩ = some (.int .i64 z.Kind) ∧ W.cell? ⟨w9.heap.size, 1, none⟩ = some (.int .i64 z.Dim) ∧ W.cell? ⟨w9.heap.size, 2, none⟩ = some (.slice E0z z.Texts.length f0z) ∧ W.cell? ⟨w9.heap.size, 3, none⟩ = some (.int .i64 z.Lo) ∧ W.cell? ⟨w9.heap.size, 4, none⟩ = some (.int .i64 z.Hi) ∧ W.cell? ⟨w9.heap.size, 5, none⟩ = some (.slice E1z z.Kids.length f1z)) (exact hcl _ (by assumption)) (first | (go_at_call 11; refine (hhx _ HI3).out.mono ?_; rintro e wq4 ⟨rfl, hb⟩; have HI4 := Aside.mk (below_self HI3.out hb); clear hb) | (go_at_call 11; refine (hhy _ HI2).out.mono ?_; rintro e wq3 ⟨rfl, hb⟩; have HI3 := Aside.mk (below_self HI2.out hb); clear hb))
          obtain ⟨i0, i1, i2, i3, i4, i5, l0, l1, l2, j0, j1, j2, j3, j4, j5, m0, m1, m2, m3, m4, m5⟩ := hcl _ HI4
          go_wp2_with fail
          have HI4 := Aside.mk HI4.out.drew
          go_region_held3 (fun W => W.cell? ⟨w.heap.size, 0, none⟩ = some (.int .i64 x.Kind) ∧ W.cell? ⟨w.heap.size, 1, none⟩ = some (.int .i64 x.Dim) ∧ W.cell? ⟨w.heap.size, 2, none⟩ = some (.slice A0 x.Texts.length c0) ∧ W.cell? ⟨w.heap.size, 3, none⟩ = some (.int .i64 x.Lo) ∧ W.cell? ⟨w.heap.size, 4, none⟩ = some (.int .i64 x.Hi) ∧ W.cell? ⟨w.heap.size, 5, none⟩ = some (.slice A1 x.Kids.length c1) ∧ W.cell? ⟨w.heap.size + 1, 0, none⟩ = some (.int .i64 ft.Time) ∧ W.cell? ⟨w.heap.size + 1, 1, none⟩ = some (.slice B0 ft.Dims.length d0) ∧ W.cell? ⟨w.heap.size + 1, 2, none⟩ = some (.slice B1 ft.Meas.length d1) ∧ W.cell? ⟨w5.heap.size, 0, none⟩ = some (.int .i64 y.Kind) ∧ W.cell? ⟨w5.heap.size, 1, none⟩ = some (.int .i64 y.Dim) ∧ W.cell? ⟨w5.heap.size, 2, none⟩ = some (.slice E0 y.Texts.length f0) ∧ W.cell? ⟨w5.heap.size, 3, none⟩ = some (.int .i64 y.Lo) ∧ W.cell? ⟨w5.heap.size, 4, none⟩ = some (.int .i64 y.Hi) ∧ W.cell? ⟨w5.heap.size, 5, none⟩ = some (.slice E1 y.Kids.length f1) ∧ W.cell? ⟨w9.heap.size, 0, none⟩ = some (.int .i64 z.Kind) ∧ W.cell? ⟨w9.heap.size, 1, none⟩ = some (.int .i64 z.Dim) ∧ W.cell? ⟨w9.heap.size, 2, none⟩ = some (.slice E0z z.Texts.length f0z) ∧ W.cell? ⟨w9.heap.size, 3, none⟩ = some (.int .i64 z.Lo) ∧ W.cell? ⟨w9.heap.size, 4, none⟩ = some (.int .i64 z.Hi) ∧ W.cell? ⟨w9.heap.size, 5, none⟩ = some (.slice E1z z.Kids.length f1z)) (exact hcl _ (by assumption)) (first | (go_at_call 11; refine (hhx _ HI7).out.mono ?_; rintro e wq8 ⟨rfl, hb⟩; have HI8 := Aside.mk (below_self HI7.out hb); clear hb) | (go_at_call 11; refine (hhz' _ HI6).out.mono ?_; rintro e wq7 ⟨rfl, hb⟩; have HI7 := Aside.mk (below_self HI6.out hb); clear hb) | (go_at_call 10; refine (hch _ HI5).out.mono ?_; rintro e wq6 ⟨rfl, hb⟩; have HI6 := Aside.mk (below_self HI5.out hb); clear hb) | (go_at_call 9; refine (hsc _ HI4).out.mono ?_; rintro e wq5 ⟨rfl, hb⟩; have HI5 := Aside.mk (below_self HI4.out hb); clear hb))
          go_wp2
          go_ret
          exact ⟨rfl, below_self HBW.out HI8.out⟩
    · have hoy0 : okF ft.Dims.length ft.Meas.length y = false := by simpa using hoy
      rw [hoy0] at hch
      simp only [errOf, Bool.false_eq_true, if_false] at hch
      go_region_held3 (fun W => W.cell? ⟨w.heap.size, 0, none⟩ = some (.int .i64 x.Kind) ∧ W.cell? ⟨w.heap.size, 1, none⟩ = some (.int .i64 x.Dim) ∧ W.cell? ⟨w.heap.size, 2, none⟩ = some (.slice A0 x.Texts.length c0) ∧ W.cell? ⟨w.heap.size, 3, none⟩ = some (.int .i64 x.Lo) ∧ W.cell? ⟨w.heap.size, 4, none⟩ = some (.int .i64 x.Hi) ∧ W.cell? ⟨w.heap.size, 5, none⟩ = some (.slice A1 x.Kids.length c1) ∧ W.cell? ⟨w.heap.size + 1, 0, none⟩ = some (.int .i64 ft.Time) ∧ W.cell? ⟨w.heap.size + 1, 1, none⟩ = some (.slice B0 ft.Dims.length d0) ∧ W.cell? ⟨w.heap.size + 1, 2, none⟩ = some (.slice B1 ft.Meas.length d1) ∧ W.cell? ⟨w5.heap.size, 0, none⟩ = some (.int .i64 y.Kind) ∧ W.cell? ⟨w5.heap.size, 1, none⟩ = some (.int .i64 y.Dim) ∧ W.cell? ⟨w5.heap.size, 2, none⟩ = some (.slice E0 y.Texts.length f0) ∧ W.cell? ⟨w5.heap.size, 3, none⟩ = some (.int .i64 y.Lo) ∧ W.cell? ⟨w5.heap.size, 4, none⟩ = some (.int .i64 y.Hi) ∧ W.cell? ⟨w5.heap.size, 5, none⟩ = some (.slice E1 y.Kids.length f1)) (exact hcl _ (by assumption)) (first | (go_at_call 10; refine (hch _ HI5).out.mono ?_; rintro e wq6 ⟨rfl, hb⟩; have HI6 := Aside.mk (below_self HI5.out hb); clear hb) | (go_at_call 9; refine (hsc _ HI4).out.mono ?_; rintro e wq5 ⟨rfl, hb⟩; have HI5 := Aside.mk (below_self HI4.out hb); clear hb))
      obtain ⟨i0, i1, i2, i3, i4, i5, l0, l1, l2, j0, j1, j2, j3, j4, j5⟩ := hcl _ HI6
      have hbad := HPQ.out.2.1 hoy0
      by_cases hsy : 200 < sy
      · go_wp2_with fail
        refine (hsz _ HI6).out.mono ?_
        rintro e wq7 ⟨rfl, hb⟩
        have HI7 := Aside.mk (below_self HI6.out hb)
        clear hb
        go_wp2
        go_ret
        exact ⟨rfl, below_self HBW.out HI7.out⟩
      · have hsb : decide (200 < sy) = false := by simpa using hsy
        have hdy20 : (20 : Int) < (dy : Int) := by omega
        go_wp2_with fail
        refine (hsz _ HI6).out.mono ?_
        rintro e wq7 ⟨rfl, hb⟩
        have HI7 := Aside.mk (below_self HI6.out hb)
        clear hb i0 i1 i2 i3 i4 i5 l0 l1 l2 j0 j1 j2 j3 j4 j5
        obtain ⟨i0, i1, i2, i3, i4, i5, l0, l1, l2, j0, j1, j2, j3, j4, j5⟩ := hcl _ HI7
        go_wp2_with fail
        refine (hdy _ HI7).out.mono ?_
        rintro e wq8 ⟨rfl, hb⟩
        have HI8 := Aside.mk (below_self HI7.out hb)
        clear hb
        go_wp2
        go_ret
        exact ⟨rfl, below_self HBW.out HI8.out⟩
  · have hok0 : okF ft.Dims.length ft.Meas.length x = false := by simpa using hok
    rw [hok0] at hch
    simp only [errOf, Bool.false_eq_true, if_false] at hch
    go_region_held3 (fun W => W.cell? ⟨w.heap.size, 0, none⟩ = some (.int .i64 x.Kind) ∧ W.cell? ⟨w.heap.size, 1, none⟩ = some (.int .i64 x.Dim) ∧ W.cell? ⟨w.heap.size, 2, none⟩ = some (.slice A0 x.Texts.length c0) ∧ W.cell? ⟨w.heap.size, 3, none⟩ = some (.int .i64 x.Lo) ∧ W.cell? ⟨w.heap.size, 4, none⟩ = some (.int .i64 x.Hi) ∧ W.cell? ⟨w.heap.size, 5, none⟩ = some (.slice A1 x.Kids.length c1) ∧ W.cell? ⟨w.heap.size + 1, 0, none⟩ = some (.int .i64 ft.Time) ∧ W.cell? ⟨w.heap.size + 1, 1, none⟩ = some (.slice B0 ft.Dims.length d0) ∧ W.cell? ⟨w.heap.size + 1, 2, none⟩ = some (.slice B1 ft.Meas.length d1)) (exact hcl _ (by assumption)) (first | (go_at_call 10; refine (hch _ HI3).out.mono ?_; rintro e wq4 ⟨rfl, hb⟩; have HI4 := Aside.mk (below_self HI3.out hb); clear hb) | (go_at_call 9; refine (hsc _ HI2).out.mono ?_; rintro e wq3 ⟨rfl, hb⟩; have HI3 := Aside.mk (below_self HI2.out hb); clear hb))
    go_wp2
    go_ret
    exact ⟨rfl, below_self HBW.out HI4.out⟩
end Go.Proofs.Ytddjbhphhhdnfaa.K
