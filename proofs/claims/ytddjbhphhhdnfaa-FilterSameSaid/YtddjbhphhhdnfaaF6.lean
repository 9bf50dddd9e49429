/- The contracts of the reference's Kids and part: no condition. -/
import Derived.Test.YtddjbhphhhdnfaaF2
import Derived.Test.YtddjbhphhhdnfaaF4
namespace Go.Proofs.Ytddjbhphhhdnfaa.K
open Go.RowKit
set_option linter.unusedVariables false
set_option linter.unusedSimpArgs false

set_option maxHeartbeats 1000000 in
theorem refKids_any (x : Filter) (cs : List Value) (w : World) (F : Nat → Prop) (h : kFilter.K w F x cs) :
    Calls Try.prog 32 #[.agg cs.toArray] w fun e w' => ∃ A c, e = .returned (.slice A (kidsOf x).length c) ∧ (kidsOf x).length ≤ c ∧ kFilter.C w' F A (kidsOf x).length (kidsOf x) ∧ Below w.heap.size w w' := by
  obtain ⟨A0, c0, A1, c1, rfl, w0, w1, ⟨l0, b0, g0⟩, w2, w3, ⟨l1, b1, g1⟩⟩ := kFilter_open h
  clear h
  have HB := Aside.mk (fun o => below_alloc (Below.refl _ w) o)
  by_cases h3 : x.Kind = 3
  · have HK := Aside.mk (show kidsOf x = x.Kids by simp [kidsOf, h3])
    go_enter Try.func32, Try.ntmps32
    go_wp2
    go_ret
    exact ⟨A1, c1, by rw [HK.out]; rfl, by rw [HK.out]; exact l1, by rw [HK.out]; exact Kd.C_below g1 (below_alloc (Below.refl _ _) _), HB.out _⟩
  · have h3b : (x.Kind == 3) = false := by simpa using h3
    by_cases h4 : x.Kind = 4
    · have HK := Aside.mk (show kidsOf x = x.Kids by simp [kidsOf, h4])
      go_enter Try.func32, Try.ntmps32
      go_wp2
      go_ret
      exact ⟨A1, c1, by rw [HK.out]; rfl, by rw [HK.out]; exact l1, by rw [HK.out]; exact Kd.C_below g1 (below_alloc (Below.refl _ _) _), HB.out _⟩
    · have h4b : (x.Kind == 4) = false := by simpa using h4
      by_cases h2 : x.Kind = 2
      · have HK := Aside.mk (show kidsOf x = x.Kids.take 1 by simp [kidsOf, h2])
        have ht : ∀ m, m = min 1 x.Kids.length → kFilter.C w F A1 m (x.Kids.take 1) := by
          rintro m rfl
          have := Kd.C_take g1 (min 1 x.Kids.length) (by omega)
          have e : x.Kids.take (min 1 x.Kids.length) = x.Kids.take 1 := by rw [List.take_eq_take_iff]; omega
          rwa [e] at this
        have HT := Aside.mk ht
        clear ht
        by_cases hl : 0 < x.Kids.length
        · go_enter Try.func32, Try.ntmps32
          go_wp2
          go_ret
          refine ⟨A1, c1, ?_, ?_, ?_, HB.out _⟩
          · rw [HK.out, List.length_take]
            show Ending.returned (Value.slice A1 _ c1) = _
            congr 2
            omega
          · rw [HK.out, List.length_take]; omega
          · rw [HK.out]; exact Kd.C_below (HT.out _ (by simp)) (below_alloc (Below.refl _ _) _)
        · have hl0 : x.Kids.length = 0 := by omega
          have HK2 := Aside.mk (show kidsOf x = [] by rw [HK.out, List.eq_nil_of_length_eq_zero hl0]; rfl)
          have hlb : decide (0 < x.Kids.length) = false := by simpa using hl0
          clear hl0
          go_enter Try.func32, Try.ntmps32
          go_wp2
          go_ret
          exact ⟨none, 0, by rw [HK2.out]; rfl, by rw [HK2.out]; simp, by rw [HK2.out]; exact Kd.C_nil' _ _ _ _, HB.out _⟩
      · have HK := Aside.mk (show kidsOf x = [] by simp [kidsOf, h2, h3, h4])
        have h2b : (x.Kind == 2) = false := by simpa using h2
        go_enter Try.func32, Try.ntmps32
        go_wp2
        go_ret
        exact ⟨none, 0, by rw [HK.out]; rfl, by rw [HK.out]; simp, by rw [HK.out]; exact Kd.C_nil' _ _ _ _, HB.out _⟩

theorem any_yes {xs : List ByteArray} {k : Nat} (hk : k < xs.length) (h : long xs[k] = true) : xs.any long = true := List.any_eq_true.2 ⟨_, List.getElem_mem hk, h⟩
theorem any_no {xs : List ByteArray} (h : ∀ j (hx : j < xs.length), long xs[j] = false) : xs.any long = false := by
  rw [List.any_eq_false]
  intro y hy
  obtain ⟨j, hj, rfl⟩ := List.mem_iff_getElem.1 hy
  rw [h j hj]; simp

/-- The rest of part, behind its tests: a loop over the texts. -/
def PartEnd (x : Filter) (w : World) (e : Ending) (w' : World) : Prop := e = .returned (.bool (!x.Texts.any long)) ∧ Below w.heap.size w w'

set_option maxHeartbeats 4000000 in
theorem refPart_loop (dims meas : Int) (x : Filter) (cs : List Value) (w : World) (h : kFilter.K w Any x cs) (d0 : 0 ≤ x.Dim) (d1 : x.Dim < dims) (hk : x.Kind = 5 ∨ (x.Kind = 6 ∧ x.Texts.length = 2) ∨ (x.Kind = 7 ∧ x.Texts.length = 1)) :
    Calls Try.prog 35 #[.agg #[.int .i64 dims, .int .i64 meas], .agg cs.toArray] w (PartEnd x w) := by
  obtain ⟨A0, c0, A1, c1, rfl, w0, w1, ⟨l0, b0, g0⟩, w2, w3, ⟨l1, b1, g1⟩⟩ := kFilter_open h
  clear h
  have h0 := g0.2.1
  have h1 := g1.2.1
  have HG := Aside.mk g0
  clear g0 g1 l1 b1 w0 w1 w2 w3
  have HB := Aside.mk (fun o o' => below_alloc (below_alloc (Below.refl _ w) o) o')
  have hnn : decide (x.Dim < 0) = false := by simp; omega
  have hnm : decide (dims ≤ x.Dim) = false := by simp; omega
  rcases hk with k | ⟨k, ht⟩ | ⟨k, ht⟩
  · have htb : ((x.Texts.length : Int) != (x.Texts.length : Int)) = false := by simp
    go_enter Try.func35, Try.ntmps35
    go_wp2
    go_loop [6] (fun i => ∃ k : Nat, k ≤ x.Texts.length ∧ i = .int .i64 k ∧ Aside (∀ j (hj : j < k) (hx : j < x.Texts.length), long x.Texts[j] = false)) (fun i => x.Texts.length - (intOf i).toNat)
    case atStart => exact ⟨0, Nat.zero_le _, rfl, ⟨fun j hj => absurd hj (Nat.not_lt_zero _)⟩⟩
    case round =>
      obtain ⟨n, hn, rfl, HNO⟩ := hrel
      by_cases hlt : n < x.Texts.length
      · obtain ⟨ad, hA, m0, hs⟩ := str_at HG.out (Below.refl _ w) hlt
        subst hA
        have m1 : ∀ o o', ((w.alloc o).alloc o').cell? (ad.add n) = some (.string x.Texts[n]) := fun o o' => ((HB.out o o').cell (World.block_lt_of_cell? w _ m0)).trans m0
        clear m0
        by_cases hp : long x.Texts[n] = true
        · have HP := Aside.mk hp
          have hsz : 64 < x.Texts[n].size := by simpa [long] using hp
          clear hp
          go_wp2
          go_ret
          exact ⟨ret_bool (by rw [any_yes hlt HP.out]; rfl), HB.out _ _⟩
        · have hp0 : long x.Texts[n] = false := by simpa using hp
          have HP := Aside.mk hp0
          have hsz : ¬ 64 < x.Texts[n].size := by simpa [long] using hp0
          clear hp hp0
          go_wp2
          go_round
          case rel =>
            refine ⟨n + 1, by omega, by go_num, ⟨fun j hj hx => ?_⟩⟩
            rcases Nat.lt_or_ge j n with h1 | h1
            · exact HNO.out j h1 hx
            · obtain rfl : j = n := by omega
              exact HP.out
          case measure => simp [intOf]; omega
      · go_wp2
        go_ret
        exact ⟨ret_bool (by rw [any_no (fun j hx => HNO.out j (by omega) hx)]; rfl), HB.out _ _⟩
  · have htb : ((x.Texts.length : Int) != 2) = false := by rw [ht]; rfl
    have HT := Aside.mk ht
    clear ht
    go_enter Try.func35, Try.ntmps35
    go_wp2
    go_loop [6] (fun i => ∃ k : Nat, k ≤ x.Texts.length ∧ i = .int .i64 k ∧ Aside (∀ j (hj : j < k) (hx : j < x.Texts.length), long x.Texts[j] = false)) (fun i => x.Texts.length - (intOf i).toNat)
    case atStart => exact ⟨0, Nat.zero_le _, rfl, ⟨fun j hj => absurd hj (Nat.not_lt_zero _)⟩⟩
    case round =>
      obtain ⟨n, hn, rfl, HNO⟩ := hrel
      by_cases hlt : n < x.Texts.length
      · obtain ⟨ad, hA, m0, hs⟩ := str_at HG.out (Below.refl _ w) hlt
        subst hA
        have m1 : ∀ o o', ((w.alloc o).alloc o').cell? (ad.add n) = some (.string x.Texts[n]) := fun o o' => ((HB.out o o').cell (World.block_lt_of_cell? w _ m0)).trans m0
        clear m0
        by_cases hp : long x.Texts[n] = true
        · have HP := Aside.mk hp
          have hsz : 64 < x.Texts[n].size := by simpa [long] using hp
          clear hp
          go_wp2
          go_ret
          exact ⟨ret_bool (by rw [any_yes hlt HP.out]; rfl), HB.out _ _⟩
        · have hp0 : long x.Texts[n] = false := by simpa using hp
          have HP := Aside.mk hp0
          have hsz : ¬ 64 < x.Texts[n].size := by simpa [long] using hp0
          clear hp hp0
          go_wp2
          go_round
          case rel =>
            refine ⟨n + 1, by omega, by go_num, ⟨fun j hj hx => ?_⟩⟩
            rcases Nat.lt_or_ge j n with h1 | h1
            · exact HNO.out j h1 hx
            · obtain rfl : j = n := by omega
              exact HP.out
          case measure => simp [intOf]; omega
      · go_wp2
        go_ret
        exact ⟨ret_bool (by rw [any_no (fun j hx => HNO.out j (by omega) hx)]; rfl), HB.out _ _⟩
  · have htb : ((x.Texts.length : Int) != 1) = false := by rw [ht]; rfl
    have HT := Aside.mk ht
    clear ht
    go_enter Try.func35, Try.ntmps35
    go_wp2
    go_loop [6] (fun i => ∃ k : Nat, k ≤ x.Texts.length ∧ i = .int .i64 k ∧ Aside (∀ j (hj : j < k) (hx : j < x.Texts.length), long x.Texts[j] = false)) (fun i => x.Texts.length - (intOf i).toNat)
    case atStart => exact ⟨0, Nat.zero_le _, rfl, ⟨fun j hj => absurd hj (Nat.not_lt_zero _)⟩⟩
    case round =>
      obtain ⟨n, hn, rfl, HNO⟩ := hrel
      by_cases hlt : n < x.Texts.length
      · obtain ⟨ad, hA, m0, hs⟩ := str_at HG.out (Below.refl _ w) hlt
        subst hA
        have m1 : ∀ o o', ((w.alloc o).alloc o').cell? (ad.add n) = some (.string x.Texts[n]) := fun o o' => ((HB.out o o').cell (World.block_lt_of_cell? w _ m0)).trans m0
        clear m0
        by_cases hp : long x.Texts[n] = true
        · have HP := Aside.mk hp
          have hsz : 64 < x.Texts[n].size := by simpa [long] using hp
          clear hp
          go_wp2
          go_ret
          exact ⟨ret_bool (by rw [any_yes hlt HP.out]; rfl), HB.out _ _⟩
        · have hp0 : long x.Texts[n] = false := by simpa using hp
          have HP := Aside.mk hp0
          have hsz : ¬ 64 < x.Texts[n].size := by simpa [long] using hp0
          clear hp hp0
          go_wp2
          go_round
          case rel =>
            refine ⟨n + 1, by omega, by go_num, ⟨fun j hj hx => ?_⟩⟩
            rcases Nat.lt_or_ge j n with h1 | h1
            · exact HNO.out j h1 hx
            · obtain rfl : j = n := by omega
              exact HP.out
          case measure => simp [intOf]; omega
      · go_wp2
        go_ret
        exact ⟨ret_bool (by rw [any_no (fun j hx => HNO.out j (by omega) hx)]; rfl), HB.out _ _⟩

set_option maxHeartbeats 4000000 in
theorem refPart_any (dims meas : Int) (x : Filter) (cs : List Value) (w : World) (h : kFilter.K w Any x cs) :
    Calls Try.prog 35 #[.agg #[.int .i64 dims, .int .i64 meas], .agg cs.toArray] w fun e w' => e = .returned (.bool (partOf dims meas x)) ∧ Below w.heap.size w w' := by
  have HL := Aside.mk (refPart_loop dims meas x cs w h)
  obtain ⟨A0, c0, A1, c1, rfl, w0, w1, ⟨l0, b0, g0⟩, w2, w3, ⟨l1, b1, g1⟩⟩ := kFilter_open h
  clear h
  have h0 := g0.2.1
  have h1 := g1.2.1
  clear g0 g1
  have HB := Aside.mk (fun o o' => below_alloc (below_alloc (Below.refl _ w) o) o')
  obtain ⟨r, hr⟩ : ∃ r, partOf dims meas x = r := ⟨_, rfl⟩
  have HR := Aside.mk hr
  rw [hr]
  clear hr
  by_cases k2 : x.Kind = 2
  · have hR := HR.out
    simp only [partOf, k2, if_true] at hR
    have HR2 := Aside.mk hR
    clear hR HL
    go_enter Try.func35, Try.ntmps35
    go_wp2
    go_ret
    exact ⟨ret_bool (by rw [← HR2.out]; exact Bool.eq_iff_iff.2 (by simp)), HB.out _ _⟩
  · by_cases k134 : x.Kind = 1 ∨ x.Kind = 3 ∨ x.Kind = 4
    · have hR := HR.out
      simp only [partOf, k2, k134, if_false, if_true] at hR
      have HR2 := Aside.mk hR
      clear hR HL
      rcases k134 with k | k | k
      all_goals
        go_enter Try.func35, Try.ntmps35
        go_wp2
        go_ret
        exact ⟨ret_bool HR2.out, HB.out _ _⟩
    · have k1 : ¬ x.Kind = 1 := fun h => k134 (.inl h)
      have k3 : ¬ x.Kind = 3 := fun h => k134 (.inr (.inl h))
      have k4 : ¬ x.Kind = 4 := fun h => k134 (.inr (.inr h))
      by_cases k8 : x.Kind = 8
      · have hR := HR.out
        simp only [partOf, k2, k134, k8, if_false, if_true] at hR
        have HR2 := Aside.mk hR
        clear hR k134 k1 k3 k4 HL
        by_cases d0 : 0 ≤ x.Dim
        · by_cases d1 : x.Dim < meas
          all_goals
            go_enter Try.func35, Try.ntmps35
            go_wp2
            go_ret
            exact ⟨ret_bool (by rw [← HR2.out]; simp [*]), HB.out _ _⟩
        · have d0' : decide (0 ≤ x.Dim) = false := by simpa using d0
          go_enter Try.func35, Try.ntmps35
          go_wp2
          all_goals
            go_ret
            exact ⟨ret_bool (by rw [← HR2.out]; simp [*]), HB.out _ _⟩
      · have k8b : (x.Kind == 8) = false := by simpa using k8
        have k1b : (x.Kind == 1) = false := by simpa using k1
        have k2b : (x.Kind == 2) = false := by simpa using k2
        have k3b : (x.Kind == 3) = false := by simpa using k3
        have k4b : (x.Kind == 4) = false := by simpa using k4
        by_cases k567 : x.Kind = 5 ∨ x.Kind = 6 ∨ x.Kind = 7
        · have hR := HR.out
          simp only [partOf, k2, k134, k8, k567, if_false, if_true] at hR
          have HR2 := Aside.mk hR
          clear hR k134 k1 k2 k3 k4 k8
          by_cases d0 : 0 ≤ x.Dim
          · by_cases d1 : x.Dim < dims
            · by_cases hok : (x.Kind = 6 → x.Texts.length = 2) ∧ (x.Kind = 7 → x.Texts.length = 1)
              · have hr3 : (!x.Texts.any long) = r := by rw [← HR2.out, decide_eq_true d0, decide_eq_true d1, decide_eq_true hok.1, decide_eq_true hok.2]; simp only [Bool.true_and]
                refine (HL.out d0 d1 ?_).mono ?_
                · rcases k567 with k | k | k
                  · exact .inl k
                  · exact .inr (.inl ⟨k, hok.1 k⟩)
                  · exact .inr (.inr ⟨k, hok.2 k⟩)
                · rintro e w' ⟨rfl, hb⟩
                  exact ⟨ret_bool hr3, hb⟩
              · have HR3 := Aside.mk (show false = r by
                  rw [← HR2.out]
                  by_cases h6 : (x.Kind = 6 → x.Texts.length = 2)
                  · have h7 : ¬ (x.Kind = 7 → x.Texts.length = 1) := fun h => hok ⟨h6, h⟩
                    simp [h7]
                  · simp [h6])
                have hnn : decide (x.Dim < 0) = false := by simp; omega
                have hnm : decide (dims ≤ x.Dim) = false := by simp; omega
                clear HR2 HL
                rcases k567 with k | k | k
                · exact absurd ⟨fun h => by omega, fun h => by omega⟩ hok
                · have ht : ¬ x.Texts.length = 2 := fun h => hok ⟨fun _ => h, fun h => by omega⟩
                  have htb : ((x.Texts.length : Int) != 2) = true := by simp; omega
                  clear hok
                  go_enter Try.func35, Try.ntmps35
                  go_wp2
                  go_ret
                  exact ⟨ret_bool HR3.out, HB.out _ _⟩
                · have ht : ¬ x.Texts.length = 1 := fun h => hok ⟨fun h => by omega, fun _ => h⟩
                  have htb : ((x.Texts.length : Int) != 1) = true := by simp; omega
                  clear hok
                  go_enter Try.func35, Try.ntmps35
                  go_wp2
                  go_ret
                  exact ⟨ret_bool HR3.out, HB.out _ _⟩
            · have HR3 := Aside.mk (show false = r by rw [← HR2.out]; simp [d1])
              have hnn : decide (x.Dim < 0) = false := by simp; omega
              have d1b : decide (dims ≤ x.Dim) = true := by simp; omega
              clear HR2 HL
              rcases k567 with k | k | k
              all_goals
                go_enter Try.func35, Try.ntmps35
                go_wp2
                go_ret
                exact ⟨ret_bool HR3.out, HB.out _ _⟩
          · have HR3 := Aside.mk (show false = r by rw [← HR2.out]; simp [d0])
            have d0b : decide (x.Dim < 0) = true := by simp; omega
            clear HR2 HL
            rcases k567 with k | k | k
            all_goals
              go_enter Try.func35, Try.ntmps35
              go_wp2
              go_ret
              exact ⟨ret_bool HR3.out, HB.out _ _⟩
        · have HR3 := Aside.mk (show false = r by rw [← HR.out]; simp [partOf, k2, k134, k8, k567])
          have k5b : (x.Kind == 5) = false := by simp; omega
          have k6b : (x.Kind == 6) = false := by simp; omega
          have k7b : (x.Kind == 7) = false := by simp; omega
          clear HR k134 k567 k1 k2 k3 k4 k8 HL
          go_enter Try.func35, Try.ntmps35
          go_wp2
          go_ret
          exact ⟨ret_bool HR3.out, HB.out _ _⟩
end Go.Proofs.Ytddjbhphhhdnfaa.K
