/- The reference's Holds at a part that has no kids, of a filter that may be. -/
import Derived.Test.YtddjbhphhhdnfaaF9
import Derived.Test.YtddjbhphhhdnfaaF5
import Derived.StillTailTactics
namespace Go.Proofs.Ytddjbhphhhdnfaa.K
open Go.RowKit
set_option linter.unusedVariables false
set_option linter.unusedSimpArgs false

set_option maxHeartbeats 8000000 in
set_option maxRecDepth 100000 in
theorem refHolds_8 (ft : Fact) (x : Filter) (cs fs : List Value) (w : World) (h : kFilter.K w Any x cs) (hf : kFact.K w Any ft fs) (k8 : x.Kind = 8) (hp : partOf ft.Dims.length ft.Meas.length x = true) :
    Calls Try.prog 12 #[.agg cs.toArray, .agg fs.toArray] w fun e w' => e = .returned (.bool (leafH ft x)) ∧ Below w.heap.size w w' := by
  obtain ⟨A0, c0, A1, c1, rfl, q0, q1, q2, q3, q4, q5⟩ := kFilter_open h
  obtain ⟨B0, d0, B1, d1, rfl, r0, r1, r2⟩ := kFact_open hf
  have HB := Aside.mk (fun o o' => below_alloc (below_alloc (Below.refl _ w) o) o')
  have hml := r2.2.2.2.1
  have HM := Aside.mk r2.2.2
  have hd : 0 ≤ x.Dim ∧ x.Dim < ft.Meas.length := by
    simp [partOf, k8] at hp
    exact hp
  have HR := Aside.mk (show leafH ft x = (decide (x.Lo ≤ measT ft x.Dim) && decide (measT ft x.Dim ≤ x.Hi)) by simp [leafH, k8, hd.1, hd.2])
  obtain ⟨e0, e1⟩ := hd
  clear h hf q0 q1 q2 q3 q4 q5 r0 r1 r2 hp
  generalize leafH ft x = r at HR ⊢
  have hi : x.Dim.toNat < ft.Meas.length := by omega
  obtain ⟨ad, hA, m0, hs⟩ := int_at HM.out (Below.refl _ w) hi
  subst hA
  have hbl := World.block_lt_of_cell? w _ m0
  have hm : ft.Meas[x.Dim.toNat] = measT ft x.Dim := by simp [measT, List.getD_eq_getElem?_getD, List.getElem?_eq_getElem hi]
  rw [hm] at m0
  clear hm hs
  have m1 : ∀ o o', ((w.alloc o).alloc o').cell? (ad.add x.Dim.toNat) = some (.int .i64 (measT ft x.Dim)) := fun o o' => ((HB.out o o').cell hbl).trans m0
  clear m0
  by_cases e2 : x.Lo ≤ measT ft x.Dim
  · have HR2 := Aside.mk (show r = decide (measT ft x.Dim ≤ x.Hi) by rw [HR.out]; simp [e2])
    clear HR
    generalize measT ft x.Dim = m at *
    go_enter Try.func12, Try.ntmps12
    go_wp2_with fail
    go_quiet (fail)
    go_wp2
    go_ret
    exact ⟨ret_bool HR2.out.symm, below_drewN (HB.out _ _) _⟩
  · have HR2 := Aside.mk (show r = false by rw [HR.out]; simp [e2])
    have e2b : decide (x.Lo ≤ measT ft x.Dim) = false := by simpa using e2
    clear HR
    generalize measT ft x.Dim = m at *
    go_enter Try.func12, Try.ntmps12
    go_wp2_with fail
    go_quiet (fail)
    go_wp2
    go_ret
    exact ⟨ret_bool HR2.out.symm, below_drewN (HB.out _ _) _⟩

/-- The dimension's text, and the texts, as they lie in memory. -/
theorem dim_cell (ft : Fact) (x : Filter) (w : World) (B0 : Option Addr) (h : Kd.string.C w Any B0 ft.Dims.length ft.Dims) (e0 : 0 ≤ x.Dim) (e1 : x.Dim < (ft.Dims.length : Int)) :
    ∃ ad, B0 = some ad ∧ (∀ o o', ((w.alloc o).alloc o').cell? (ad.add x.Dim.toNat) = some (.string (dimT ft x.Dim))) ∧ (dimT ft x.Dim).size ≤ 140737488355328 := by
  have hi : x.Dim.toNat < ft.Dims.length := by omega
  obtain ⟨ad, hA, m0, hs⟩ := str_at h (Below.refl _ w) hi
  have hm : ft.Dims[x.Dim.toNat] = dimT ft x.Dim := by simp [dimT, List.getD_eq_getElem?_getD, List.getElem?_eq_getElem hi]
  rw [hm] at m0 hs
  exact ⟨ad, hA, fun o o' => ((below_alloc (below_alloc (Below.refl _ w) o) o').cell (World.block_lt_of_cell? w _ m0)).trans m0, hs⟩
theorem text_cell (xs : List ByteArray) (w : World) (A : Option Addr) (h : Kd.string.C w Any A xs.length xs) {i : Nat} (hi : i < xs.length) :
    ∃ ad, A = some ad ∧ (∀ o o', ((w.alloc o).alloc o').cell? (ad.add i) = some (.string (xs.getD i ByteArray.empty))) ∧ (xs.getD i ByteArray.empty).size ≤ 140737488355328 := by
  obtain ⟨ad, hA, m0, hs⟩ := str_at h (Below.refl _ w) hi
  have hm : xs[i] = xs.getD i ByteArray.empty := by simp [List.getD_eq_getElem?_getD, List.getElem?_eq_getElem hi]
  rw [hm] at m0 hs
  exact ⟨ad, hA, fun o o' => ((below_alloc (below_alloc (Below.refl _ w) o) o').cell (World.block_lt_of_cell? w _ m0)).trans m0, hs⟩

set_option maxHeartbeats 8000000 in
set_option maxRecDepth 100000 in
theorem refHolds_67 (ft : Fact) (x : Filter) (cs fs : List Value) (w : World) (h : kFilter.K w Any x cs) (hf : kFact.K w Any ft fs) (k67 : x.Kind = 6 ∨ x.Kind = 7) (hp : partOf ft.Dims.length ft.Meas.length x = true) :
    Calls Try.prog 12 #[.agg cs.toArray, .agg fs.toArray] w fun e w' => e = .returned (.bool (leafH ft x)) ∧ Below w.heap.size w w' := by
  obtain ⟨A0, c0, A1, c1, rfl, q0, q1, q2, q3, q4, q5⟩ := kFilter_open h
  obtain ⟨B0, d0, B1, d1, rfl, r0, r1, r2⟩ := kFact_open hf
  have HB := Aside.mk (fun o o' => below_alloc (below_alloc (Below.refl _ w) o) o')
  have htl := q2.2.2.2.1
  have hdl := r1.2.2.2.1
  have hT := q2.2.2
  have hD := r1.2.2
  have hd : 0 ≤ x.Dim ∧ x.Dim < ft.Dims.length ∧ (x.Kind = 6 → x.Texts.length = 2) ∧ (x.Kind = 7 → x.Texts.length = 1) := by
    rcases k67 with k | k
    all_goals
      simp [partOf, k] at hp
      simp [k]
      omega
  obtain ⟨e0, e1, e6, e7⟩ := hd
  obtain ⟨ad, hA, m1, hs⟩ := dim_cell ft x w B0 hD e0 e1
  subst hA
  clear h hf q0 q1 q2 q3 q4 q5 r0 r1 r2 hp hD
  rcases k67 with k | k
  · have hl := e6 k
    obtain ⟨a0, hA0, n0, hs0⟩ := text_cell x.Texts w A0 hT (show 0 < x.Texts.length by omega)
    obtain ⟨a1, hA1, n1, hs1⟩ := text_cell x.Texts w A0 hT (show 1 < x.Texts.length by omega)
    subst hA0
    injection hA1 with hA1
    subst hA1
    have HR := Aside.mk (show leafH ft x = ((Op.bytesLess (x.Texts.getD 0 ByteArray.empty).toList (dimT ft x.Dim).toList || (x.Texts.getD 0 ByteArray.empty).toList == (dimT ft x.Dim).toList) && Op.bytesLess (dimT ft x.Dim).toList (x.Texts.getD 1 ByteArray.empty).toList) by
      rw [← bytes_geq]
      unfold leafH
      rw [if_neg (by omega), if_neg (by omega), if_neg (by omega), if_pos ⟨k, hl⟩])
    generalize leafH ft x = r at HR ⊢
    generalize dimT ft x.Dim = t at *
    generalize x.Texts.getD 0 ByteArray.empty = t0 at *
    generalize x.Texts.getD 1 ByteArray.empty = t1 at *
    have p0 : ∀ o o', ((w.alloc o).alloc o').cell? a0 = some (.string t0) := fun o o' => by have := n0 o o'; simpa [Addr.add] using this
    have p1 : ∀ o o', ((w.alloc o).alloc o').cell? ⟨a0.block, a0.off + 1, none⟩ = some (.string t1) := n1
    have hl0 : 0 < x.Texts.length := by omega
    have hl1 : 1 < x.Texts.length := by omega
    have hl0i : (0 : Int) < (x.Texts.length : Int) := by omega
    have hl1i : (1 : Int) < (x.Texts.length : Int) := by omega
    have HL := Aside.mk hl
    clear hl e6 e7 hT hs hs0 hs1 n0
    by_cases b0 : (Op.bytesLess t0.toList t.toList || t0.toList == t.toList) = true
    · have HR2 := Aside.mk (show r = Op.bytesLess t.toList t1.toList by rw [HR.out, b0]; rfl)
      clear HR
      go_enter Try.func12, Try.ntmps12
      go_wp2_with fail
      go_quiet (fail)
      go_wp2
      go_ret
      exact ⟨ret_bool HR2.out.symm, below_drewN (HB.out _ _) _⟩
    · have b0f : (Op.bytesLess t0.toList t.toList || t0.toList == t.toList) = false := by simpa using b0
      have HR2 := Aside.mk (show r = false by rw [HR.out, b0f]; rfl)
      clear HR b0
      go_enter Try.func12, Try.ntmps12
      go_wp2_with fail
      go_quiet (fail)
      go_wp2
      go_ret
      exact ⟨ret_bool HR2.out.symm, below_drewN (HB.out _ _) _⟩
  · have hl := e7 k
    obtain ⟨a0, hA0, n0, hs0⟩ := text_cell x.Texts w A0 hT (show 0 < x.Texts.length by omega)
    subst hA0
    have HR := Aside.mk (show leafH ft x = begins (dimT ft x.Dim) (x.Texts.getD 0 ByteArray.empty) by
      unfold leafH
      rw [if_neg (by omega), if_neg (by omega), if_neg (by omega), if_neg (by omega), if_pos ⟨k, hl⟩])
    generalize leafH ft x = r at HR ⊢
    generalize dimT ft x.Dim = t at *
    generalize x.Texts.getD 0 ByteArray.empty = t0 at *
    have p0 : ∀ o o', ((w.alloc o).alloc o').cell? a0 = some (.string t0) := fun o o' => by have := n0 o o'; simpa [Addr.add] using this
    have hl0 : 0 < x.Texts.length := by omega
    have hl0i : (0 : Int) < (x.Texts.length : Int) := by omega
    have HL := Aside.mk hl
    clear hl e6 e7 hT n0
    by_cases b0 : t0.size ≤ t.size
    · have HR2 := Aside.mk (show r = ((t.extract 0 t0.size).toList == t0.toList) by rw [HR.out]; simp [begins, b0])
      clear HR
      go_enter Try.func12, Try.ntmps12
      go_wp2_with fail
      go_quiet (fail)
      go_wp2
      go_ret
      exact ⟨ret_bool HR2.out.symm, below_drewN (HB.out _ _) _⟩
    · have b0f : decide (t0.size ≤ t.size) = false := by simpa using b0
      have HR2 := Aside.mk (show r = false by rw [HR.out]; simp [begins, b0])
      clear HR b0
      go_enter Try.func12, Try.ntmps12
      go_wp2_with fail
      go_quiet (fail)
      go_wp2
      go_ret
      exact ⟨ret_bool HR2.out.symm, below_drewN (HB.out _ _) _⟩
end Go.Proofs.Ytddjbhphhhdnfaa.K
