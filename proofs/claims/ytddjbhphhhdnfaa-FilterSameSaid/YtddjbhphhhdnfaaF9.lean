/- filter.Holds at a part that has no kids: no condition. -/
import Derived.Test.YtddjbhphhhdnfaaF8
namespace Go.Proofs.Ytddjbhphhhdnfaa.K
open Go.RowKit
set_option linter.unusedVariables false
set_option linter.unusedSimpArgs false

theorem int_at {w w1 : World} {F : Nat → Prop} {A : Option Addr} {n : Nat} {xs : List Int} {k : IntKind} (h : (Kd.int k).C w F A n xs) (hb : Below w.heap.size w w1) {i : Nat} (hi : i < xs.length) : ∃ ad, A = some ad ∧ w1.cell? (ad.add i) = some (.int k xs[i]) ∧ (Lit.int k xs[i]).wf = true := by
  obtain ⟨ad, c, e, hF, hl, hK, hc⟩ := Kd.C_get h hi
  have hsz : (Kd.int k).sz = 1 := rfl
  rw [hsz] at hc
  obtain ⟨rfl, hs⟩ := hK
  exact ⟨ad, e, by rw [hb.cell (by rw [Kd.add_block]; exact hl)]; have := hc 0 _ rfl; rwa [Nat.mul_one, Nat.add_zero] at this, hs⟩

set_option maxHeartbeats 4000000 in
set_option maxRecDepth 100000 in
theorem holds_meas (ft : Fact) (x : Filter) (cs fs : List Value) (w : World) (h : kFilter.K w Any x cs) (hf : kFact.K w Any ft fs) (k8 : x.Kind = 8) :
    Calls Try.prog 11 #[.agg cs.toArray, .agg fs.toArray] w fun e w' => e = .returned (.bool (leafH ft x)) ∧ Below w.heap.size w w' := by
  obtain ⟨A0, c0, A1, c1, rfl, q0, q1, q2, q3, q4, q5⟩ := kFilter_open h
  obtain ⟨B0, d0, B1, d1, rfl, r0, r1, r2⟩ := kFact_open hf
  have HB := Aside.mk (fun o o' => below_alloc (below_alloc (Below.refl _ w) o) o')
  have hml := r2.2.2.2.1
  have hdl := r1.2.2.2.1
  have HM := Aside.mk r2.2.2
  have HR := Aside.mk (show leafH ft x = (decide (0 ≤ x.Dim) && decide (x.Dim < ft.Meas.length) && decide (x.Lo ≤ measT ft x.Dim) && decide (measT ft x.Dim ≤ x.Hi)) by simp [leafH, k8])
  clear h hf q0 q1 q2 q3 q4 q5 r0 r1 r2
  generalize leafH ft x = r at HR ⊢
  by_cases e0 : 0 ≤ x.Dim
  · by_cases e1 : x.Dim < ft.Meas.length
    · have hi : x.Dim.toNat < ft.Meas.length := by omega
      obtain ⟨ad, hA, m0, hs⟩ := int_at HM.out (Below.refl _ w) hi
      subst hA
      have hbl := World.block_lt_of_cell? w _ m0
      have hm : ft.Meas[x.Dim.toNat] = measT ft x.Dim := by simp [measT, List.getD_eq_getElem?_getD, List.getElem?_eq_getElem hi]
      rw [hm] at m0
      clear hm hs
      have m1 : ∀ o o', ((w.alloc o).alloc o').cell? (ad.add x.Dim.toNat) = some (.int .i64 (measT ft x.Dim)) := fun o o' => ((HB.out o o').cell hbl).trans m0
      clear m0
      by_cases e2 : x.Lo ≤ measT ft x.Dim
      · have HR2 := Aside.mk (show r = decide (measT ft x.Dim ≤ x.Hi) by rw [HR.out]; simp [e0, e1, e2])
        clear HR
        generalize measT ft x.Dim = m at *
        go_enter Try.func11, Try.ntmps11
        go_wp2_with fail
        go_quiet (fail)
        go_wp2
        go_ret
        exact ⟨ret_bool HR2.out.symm, below_drewN (HB.out _ _) _⟩
      · have HR2 := Aside.mk (show r = false by rw [HR.out]; simp [e2])
        have e2b : decide (x.Lo ≤ measT ft x.Dim) = false := by simpa using e2
        clear HR
        generalize measT ft x.Dim = m at *
        go_enter Try.func11, Try.ntmps11
        go_wp2_with fail
        go_quiet (fail)
        go_wp2
        go_ret
        exact ⟨ret_bool HR2.out.symm, below_drewN (HB.out _ _) _⟩
    · have HR2 := Aside.mk (show r = false by rw [HR.out]; simp [e1])
      have e1b : decide (x.Dim < (ft.Meas.length : Int)) = false := by simpa using e1
      clear HR
      go_enter Try.func11, Try.ntmps11
      go_wp2_with fail
      go_quiet (fail)
      go_wp2
      go_ret
      exact ⟨ret_bool HR2.out.symm, below_drewN (HB.out _ _) _⟩
  · have HR2 := Aside.mk (show r = false by rw [HR.out]; simp [e0])
    have e0b : decide (0 ≤ x.Dim) = false := by simpa using e0
    clear HR
    go_enter Try.func11, Try.ntmps11
    go_wp2_with fail
    go_quiet (fail)
    go_wp2
    go_ret
    exact ⟨ret_bool HR2.out.symm, below_drewN (HB.out _ _) _⟩

set_option maxHeartbeats 8000000 in
set_option maxRecDepth 100000 in
theorem holds_dim (ft : Fact) (x : Filter) (cs fs : List Value) (w : World) (h : kFilter.K w Any x cs) (hf : kFact.K w Any ft fs) (k1 : ¬ x.Kind = 1) (k2 : ¬ x.Kind = 2) (k3 : ¬ x.Kind = 3) (k4 : ¬ x.Kind = 4) (k8 : ¬ x.Kind = 8) :
    Calls Try.prog 11 #[.agg cs.toArray, .agg fs.toArray] w fun e w' => e = .returned (.bool (leafH ft x)) ∧ Below w.heap.size w w' := by
  obtain ⟨A0, c0, A1, c1, rfl, q0, q1, q2, q3, q4, q5⟩ := kFilter_open h
  obtain ⟨B0, d0, B1, d1, rfl, r0, r1, r2⟩ := kFact_open hf
  have HB := Aside.mk (fun o o' => below_alloc (below_alloc (Below.refl _ w) o) o')
  have htl := q2.2.2.2.1
  have hdl := r1.2.2.2.1
  have HT := Aside.mk q2.2.2
  have HD := Aside.mk r1.2.2
  have k1b : (x.Kind == 1) = false := by simpa using k1
  have k2b : (x.Kind == 2) = false := by simpa using k2
  have k3b : (x.Kind == 3) = false := by simpa using k3
  have k4b : (x.Kind == 4) = false := by simpa using k4
  have k8b : (x.Kind == 8) = false := by simpa using k8
  have HR := Aside.mk (show leafH ft x = _ by unfold leafH; rw [if_neg k8])
  clear h hf q0 q1 q2 q3 q4 q5 r0 r1 r2 k1 k2 k3 k4 k8
  generalize leafH ft x = r at HR ⊢
  by_cases e0 : x.Dim < 0
  · have HR2 := Aside.mk (show r = false by rw [HR.out]; simp [e0])
    clear HR
    go_enter Try.func11, Try.ntmps11
    go_wp2
    go_ret
    exact ⟨ret_bool HR2.out.symm, HB.out _ _⟩
  · by_cases e1 : (ft.Dims.length : Int) ≤ x.Dim
    · have HR2 := Aside.mk (show r = false by rw [HR.out]; simp [e1])
      have e0b : decide (x.Dim < 0) = false := by simpa using e0
      clear HR
      go_enter Try.func11, Try.ntmps11
      go_wp2
      go_ret
      exact ⟨ret_bool HR2.out.symm, HB.out _ _⟩
    · have hr := HR.out
      rw [if_neg (by omega)] at hr
      have HR := Aside.mk hr
      clear hr
      have e0b : decide (x.Dim < 0) = false := by simpa using e0
      have e1b : decide ((ft.Dims.length : Int) ≤ x.Dim) = false := by simpa using e1
      have h0d : 0 ≤ x.Dim := by omega
      have h1d : x.Dim < (ft.Dims.length : Int) := by omega
      have hi : x.Dim.toNat < ft.Dims.length := by omega
      obtain ⟨ad, hA, m0, hs⟩ := str_at HD.out (Below.refl _ w) hi
      subst hA
      have hbl := World.block_lt_of_cell? w _ m0
      have hm : ft.Dims[x.Dim.toNat] = dimT ft x.Dim := by simp [dimT, List.getD_eq_getElem?_getD, List.getElem?_eq_getElem hi]
      rw [hm] at m0 hs
      clear hm
      have m1 : ∀ o o', ((w.alloc o).alloc o').cell? (ad.add x.Dim.toNat) = some (.string (dimT ft x.Dim)) := fun o o' => ((HB.out o o').cell hbl).trans m0
      clear m0 e0 e1
      generalize dimT ft x.Dim = t at *
      by_cases k5 : x.Kind = 5
      · have HR2 := Aside.mk (show x.Texts.any (isText t) = r by rw [HR.out, if_pos k5])
        have HC := fun o o' => Aside.mk (contains_any t x.Texts A0 c0 ((w.alloc o).alloc o') (Kd.C_below HT.out (HB.out o o')))
        clear HR
        go_enter Try.func11, Try.ntmps11
        go_wp2_with fail
        refine (HC _ _).out.mono ?_
        rintro e w2 ⟨rfl, rfl⟩
        go_wp2
        go_ret
        exact ⟨ret_bool HR2.out, HB.out _ _⟩
      · have hr := HR.out
        rw [if_neg k5] at hr
        have HR := Aside.mk hr
        have k5b : (x.Kind == 5) = false := by simpa using k5
        clear hr k5
        by_cases k6 : x.Kind = 6
        · by_cases hl : x.Texts.length = 2
          · obtain ⟨a0, hA0, n0, hs0⟩ := str_at HT.out (Below.refl _ w) (show 0 < x.Texts.length by omega)
            obtain ⟨a1, hA1, n1, hs1⟩ := str_at HT.out (Below.refl _ w) (show 1 < x.Texts.length by omega)
            subst hA0
            injection hA1 with hA1
            subst hA1
            have g0 : x.Texts[0] = x.Texts.getD 0 ByteArray.empty := by simp [List.getD_eq_getElem?_getD, List.getElem?_eq_getElem (show 0 < x.Texts.length by omega)]
            have g1 : x.Texts[1] = x.Texts.getD 1 ByteArray.empty := by simp [List.getD_eq_getElem?_getD, List.getElem?_eq_getElem (show 1 < x.Texts.length by omega)]
            rw [g0] at n0
            rw [g1] at n1
            have hr := HR.out
            rw [if_pos ⟨k6, hl⟩] at hr
            have HR := Aside.mk hr
            clear hr g0 g1 hs0 hs1
            generalize x.Texts.getD 0 ByteArray.empty = t0 at *
            generalize x.Texts.getD 1 ByteArray.empty = t1 at *
            have p0 : ∀ o o', ((w.alloc o).alloc o').cell? a0 = some (.string t0) := fun o o' => by have := ((HB.out o o').cell (World.block_lt_of_cell? w _ n0)).trans n0; simpa [Addr.add] using this
            have p1 : ∀ o o', ((w.alloc o).alloc o').cell? (a0.add 1) = some (.string t1) := fun o o' => ((HB.out o o').cell (World.block_lt_of_cell? w _ n1)).trans n1
            have p2 : ∀ o o', ((w.alloc o).alloc o').cell? ⟨a0.block, a0.off + 1, none⟩ = some (.string t1) := p1
            have hlb : ((x.Texts.length : Int) == 2) = true := by rw [hl]; rfl
            have hl0 : 0 < x.Texts.length := by omega
            have hl1 : 1 < x.Texts.length := by omega
            have HL := Aside.mk hl
            clear n0 n1 hl
            by_cases b0 : Op.bytesLess t.toList t0.toList = true
            · have HR2 := Aside.mk (show false = r by rw [HR.out, b0]; rfl)
              clear HR
              go_enter Try.func11, Try.ntmps11
              go_wp2
              go_ret
              exact ⟨ret_bool HR2.out, HB.out _ _⟩
            · have b0f : Op.bytesLess t.toList t0.toList = false := by simpa using b0
              have HR2 := Aside.mk (show Op.bytesLess t.toList t1.toList = r by rw [HR.out, b0f]; rfl)
              clear HR b0
              go_enter Try.func11, Try.ntmps11
              go_wp2
              go_ret
              exact ⟨ret_bool HR2.out, HB.out _ _⟩
          · have HR2 := Aside.mk (show false = r by rw [HR.out]; simp [hl, k6])
            have hlb : ((x.Texts.length : Int) == 2) = false := by simp; omega
            clear HR hl
            go_enter Try.func11, Try.ntmps11
            go_wp2
            go_ret
            exact ⟨ret_bool HR2.out, HB.out _ _⟩
        · have hr := HR.out
          rw [if_neg (fun h => k6 h.1)] at hr
          have HR := Aside.mk hr
          have k6b : (x.Kind == 6) = false := by simpa using k6
          clear hr k6
          by_cases k7 : x.Kind = 7
          · by_cases hl : x.Texts.length = 1
            · obtain ⟨a0, hA0, n0, hs0⟩ := str_at HT.out (Below.refl _ w) (show 0 < x.Texts.length by omega)
              subst hA0
              have g0 : x.Texts[0] = x.Texts.getD 0 ByteArray.empty := by simp [List.getD_eq_getElem?_getD, List.getElem?_eq_getElem (show 0 < x.Texts.length by omega)]
              rw [g0] at n0 hs0
              have HR2 := Aside.mk (show begins t (x.Texts.getD 0 ByteArray.empty) = r by rw [HR.out, if_pos ⟨k7, hl⟩])
              clear g0 HR
              generalize x.Texts.getD 0 ByteArray.empty = t0 at *
              have p0 : ∀ o o', ((w.alloc o).alloc o').cell? a0 = some (.string t0) := fun o o' => by have := ((HB.out o o').cell (World.block_lt_of_cell? w _ n0)).trans n0; simpa [Addr.add] using this
              have hlb : ((x.Texts.length : Int) == 1) = true := by rw [hl]; rfl
              have hl0 : 0 < x.Texts.length := by omega
              have HL := Aside.mk hl
              have HC := fun W => Aside.mk (hasPrefix_any t t0 W hs hs0)
              clear n0 hl hs hs0
              go_enter Try.func11, Try.ntmps11
              go_wp2_with fail
              refine (HC _).out.mono ?_
              rintro e w2 ⟨rfl, rfl⟩
              go_wp2
              go_ret
              exact ⟨ret_bool HR2.out, HB.out _ _⟩
            · have HR2 := Aside.mk (show false = r by rw [HR.out]; simp [hl])
              have hlb : ((x.Texts.length : Int) == 1) = false := by simp; omega
              clear HR hl
              go_enter Try.func11, Try.ntmps11
              go_wp2
              go_ret
              exact ⟨ret_bool HR2.out, HB.out _ _⟩
          · have HR2 := Aside.mk (show false = r by rw [HR.out]; simp [k7])
            have k7b : (x.Kind == 7) = false := by simpa using k7
            clear HR k7
            go_enter Try.func11, Try.ntmps11
            go_wp2
            go_ret
            exact ⟨ret_bool HR2.out, HB.out _ _⟩
end Go.Proofs.Ytddjbhphhhdnfaa.K
