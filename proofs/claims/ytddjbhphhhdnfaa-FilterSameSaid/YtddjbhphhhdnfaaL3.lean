/- The law FilterHolds, walked: it returns true. No condition. -/
import Derived.Test.YtddjbhphhhdnfaaG8
import Derived.Test.YtddjbhphhhdnfaaF7
import Derived.Deep.RegionHeld3
namespace Go.Proofs.Ytddjbhphhhdnfaa.K
open Go.RowKit
set_option linter.unusedVariables false
set_option linter.unusedSimpArgs false

/-- What a world keeps of two boxes. -/
def Keeps2 (w0 w : World) (B : Nat) (a b : Array Value) (W : World) : Prop := Below w0.heap.size w0 W ∧ W.heap[B]? = some (.cells a 25 (0, 0)) ∧ W.heap[B + 1]? = some (.cells b 28 (0, 0))

theorem Keeps2.drew {w0 w W : World} {B : Nat} {a b : Array Value} (h : Keeps2 w0 w B a b W) : Keeps2 w0 w B a b W.drew := ⟨h.1.drew, h.2.1, h.2.2⟩
theorem Keeps2.cells {w0 w W : World} {B : Nat} {a b c d e f g h i : Value} (I : Aside (Keeps2 w0 w B #[a, b, c, d, e, f] #[g, h, i] W)) : W.cell? ⟨B, 0, none⟩ = some a ∧ W.cell? ⟨B, 1, none⟩ = some b ∧ W.cell? ⟨B, 2, none⟩ = some c ∧ W.cell? ⟨B, 3, none⟩ = some d ∧ W.cell? ⟨B, 4, none⟩ = some e ∧ W.cell? ⟨B, 5, none⟩ = some f ∧ W.cell? ⟨B + 1, 0, none⟩ = some g ∧ W.cell? ⟨B + 1, 1, none⟩ = some h ∧ W.cell? ⟨B + 1, 2, none⟩ = some i := by
  obtain ⟨i0, i1, i2, i3, i4, i5, _⟩ := cells6 I.out.2.1
  obtain ⟨l0, l1, l2, _⟩ := cells3 I.out.2.2
  exact ⟨i0, i1, i2, i3, i4, i5, l0, l1, l2⟩
theorem Keeps2.next {w0 w W W' : World} {B : Nat} {a b : Array Value} (h : Keeps2 w0 w B a b W) (hb : Below W.heap.size W W') : Keeps2 w0 w B a b W' := ⟨below_self h.1 hb, blk_below h.2.1 hb, blk_below h.2.2 hb⟩

set_option maxHeartbeats 8000000 in
set_option maxRecDepth 100000 in
theorem law_holds (x : Filter) (ft : Fact) (cs fs : List Value) (w : World) (h : kFilter.K w Any x cs) (hf : kFact.K w Any ft fs) :
    Calls Try.prog 3 #[.agg cs.toArray, .agg fs.toArray] w fun e w' => e = .returned (.bool true) ∧ Below w.heap.size w w' := by
  have hx := h
  obtain ⟨A0, c0, A1, c1, rfl, q0, q1, q2, q3, q4, q5⟩ := kFilter_open h
  have hft := hf
  obtain ⟨B0, d0, B1, d1, rfl, r0, r1, r2⟩ := kFact_open hf
  have HX := Aside.mk hx
  have HF := Aside.mk hft
  have hsc := fun W (I : Aside (Keeps2 w w w.heap.size #[.int .i64 x.Kind, .int .i64 x.Dim, .slice A0 x.Texts.length c0, .int .i64 x.Lo, .int .i64 x.Hi, .slice A1 x.Kids.length c1] #[.int .i64 ft.Time, .slice B0 ft.Dims.length d0, .slice B1 ft.Meas.length d1] W)) => Aside.mk (schema_any ft _ W (Kd.below hft I.out.1))
  have hrc := fun W (I : Aside (Keeps2 w w w.heap.size #[.int .i64 x.Kind, .int .i64 x.Dim, .slice A0 x.Texts.length c0, .int .i64 x.Lo, .int .i64 x.Hi, .slice A1 x.Kids.length c1] #[.int .i64 ft.Time, .slice B0 ft.Dims.length d0, .slice B1 ft.Meas.length d1] W)) => Aside.mk (refCheck_any ft.Dims.length ft.Meas.length x _ W (Kd.below hx I.out.1))
  have hch := fun W (I : Aside (Keeps2 w w w.heap.size #[.int .i64 x.Kind, .int .i64 x.Dim, .slice A0 x.Texts.length c0, .int .i64 x.Lo, .int .i64 x.Hi, .slice A1 x.Kids.length c1] #[.int .i64 ft.Time, .slice B0 ft.Dims.length d0, .slice B1 ft.Meas.length d1] W)) => Aside.mk (check_any ft.Dims.length ft.Meas.length x _ W (Kd.below hx I.out.1))
  have hho := fun W (I : Aside (Keeps2 w w w.heap.size #[.int .i64 x.Kind, .int .i64 x.Dim, .slice A0 x.Texts.length c0, .int .i64 x.Lo, .int .i64 x.Hi, .slice A1 x.Kids.length c1] #[.int .i64 ft.Time, .slice B0 ft.Dims.length d0, .slice B1 ft.Meas.length d1] W)) => Aside.mk (holds_any ft _ x (Nat.le_refl _) _ _ W (Kd.below hx I.out.1) (Kd.below hft I.out.1))
  have hrh := fun W (I : Aside (Keeps2 w w w.heap.size #[.int .i64 x.Kind, .int .i64 x.Dim, .slice A0 x.Texts.length c0, .int .i64 x.Lo, .int .i64 x.Hi, .slice A1 x.Kids.length c1] #[.int .i64 ft.Time, .slice B0 ft.Dims.length d0, .slice B1 ft.Meas.length d1] W)) (v : Val ft.Dims.length ft.Meas.length x) => Aside.mk (refHolds_any ft _ x (Nat.le_refl _) v _ _ W (Kd.below hx I.out.1) (Kd.below hft I.out.1))
  clear h hf q0 q1 q2 q3 q4 q5 r0 r1 r2 hx hft
  go_enter Try.func3, Try.ntmps3
  go_wp2_with fail
  generalize hW : (w.alloc _).alloc _ = W
  obtain ⟨b1, b2, hbel⟩ := two_known hW
  have HBW := Aside.mk hbel
  have HP1 := Aside.mk b1
  have HP2 := Aside.mk b2
  clear hW b1 b2 hbel
  refine (awake_any W).mono ?_
  rintro e w2 ⟨rfl, hb⟩
  have HI2 := Aside.mk (show Keeps2 w w w.heap.size _ _ w2 from ⟨below_self HBW.out hb, blk_below HP1.out hb, blk_below HP2.out hb⟩)
  obtain ⟨i0, i1, i2, i3, i4, i5, hlt⟩ := cells6 HI2.out.2.1
  obtain ⟨l0, l1, l2, hlt3⟩ := cells3 HI2.out.2.2
  clear hb
  go_wp2_with fail
  by_cases hok : okF ft.Dims.length ft.Meas.length x = true
  · rw [hok] at hrc hch
    simp only [errOf, if_true] at hrc hch
    have HI2 := Aside.mk HI2.out.drew
    go_region_held3 (fun W => W.cell? ⟨w.heap.size, 0, none⟩ = some (.int .i64 x.Kind) ∧ W.cell? ⟨w.heap.size, 1, none⟩ = some (.int .i64 x.Dim) ∧ W.cell? ⟨w.heap.size, 2, none⟩ = some (.slice A0 x.Texts.length c0) ∧ W.cell? ⟨w.heap.size, 3, none⟩ = some (.int .i64 x.Lo) ∧ W.cell? ⟨w.heap.size, 4, none⟩ = some (.int .i64 x.Hi) ∧ W.cell? ⟨w.heap.size, 5, none⟩ = some (.slice A1 x.Kids.length c1) ∧ W.cell? ⟨w.heap.size + 1, 0, none⟩ = some (.int .i64 ft.Time) ∧ W.cell? ⟨w.heap.size + 1, 1, none⟩ = some (.slice B0 ft.Dims.length d0) ∧ W.cell? ⟨w.heap.size + 1, 2, none⟩ = some (.slice B1 ft.Meas.length d1)) (exact Keeps2.cells (by assumption)) (first | (go_at_call 9; refine (hsc _ (by assumption)).out.mono ?_; rintro e w3 ⟨rfl, hb⟩; have HI3 := Aside.mk (HI2.out.next hb); clear hb) | (go_at_call 8; refine (hrc _ (by assumption)).out.mono ?_; rintro e w4 ⟨rfl, hb⟩; have HI4 := Aside.mk (HI3.out.next hb); clear hb))
    have hrh := fun W I => hrh W I (Val.of_ok hok)
    generalize holdsF ft x = r at hho hrh
    go_wp2_with fail
    have HI4 := Aside.mk HI4.out.drew
    cases r
    all_goals
      go_region_held3 (fun W => W.cell? ⟨w.heap.size, 0, none⟩ = some (.int .i64 x.Kind) ∧ W.cell? ⟨w.heap.size, 1, none⟩ = some (.int .i64 x.Dim) ∧ W.cell? ⟨w.heap.size, 2, none⟩ = some (.slice A0 x.Texts.length c0) ∧ W.cell? ⟨w.heap.size, 3, none⟩ = some (.int .i64 x.Lo) ∧ W.cell? ⟨w.heap.size, 4, none⟩ = some (.int .i64 x.Hi) ∧ W.cell? ⟨w.heap.size, 5, none⟩ = some (.slice A1 x.Kids.length c1) ∧ W.cell? ⟨w.heap.size + 1, 0, none⟩ = some (.int .i64 ft.Time) ∧ W.cell? ⟨w.heap.size + 1, 1, none⟩ = some (.slice B0 ft.Dims.length d0) ∧ W.cell? ⟨w.heap.size + 1, 2, none⟩ = some (.slice B1 ft.Meas.length d1)) (exact Keeps2.cells (by assumption)) (first | (go_at_call 11; refine (hho _ (by assumption)).out.mono ?_; rintro e w5 ⟨rfl, hb⟩; have HI5 := Aside.mk (HI4.out.next hb); clear hb) | (go_at_call 12; refine (hrh _ (by assumption)).out.mono ?_; rintro e w6 ⟨rfl, hb⟩; have HI6 := Aside.mk (HI5.out.next hb); clear hb))
      go_wp2
      go_ret
      exact ⟨rfl, HI6.out.1⟩
  · have hok0 : okF ft.Dims.length ft.Meas.length x = false := by simpa using hok
    rw [hok0] at hrc hch
    simp only [errOf, Bool.false_eq_true, if_false] at hrc hch
    have HI2 := Aside.mk HI2.out.drew
    go_region_held3 (fun W => W.cell? ⟨w.heap.size, 0, none⟩ = some (.int .i64 x.Kind) ∧ W.cell? ⟨w.heap.size, 1, none⟩ = some (.int .i64 x.Dim) ∧ W.cell? ⟨w.heap.size, 2, none⟩ = some (.slice A0 x.Texts.length c0) ∧ W.cell? ⟨w.heap.size, 3, none⟩ = some (.int .i64 x.Lo) ∧ W.cell? ⟨w.heap.size, 4, none⟩ = some (.int .i64 x.Hi) ∧ W.cell? ⟨w.heap.size, 5, none⟩ = some (.slice A1 x.Kids.length c1) ∧ W.cell? ⟨w.heap.size + 1, 0, none⟩ = some (.int .i64 ft.Time) ∧ W.cell? ⟨w.heap.size + 1, 1, none⟩ = some (.slice B0 ft.Dims.length d0) ∧ W.cell? ⟨w.heap.size + 1, 2, none⟩ = some (.slice B1 ft.Meas.length d1)) (exact Keeps2.cells (by assumption)) (first | (go_at_call 9; refine (hsc _ (by assumption)).out.mono ?_; rintro e w3 ⟨rfl, hb⟩; have HI3 := Aside.mk (HI2.out.next hb); clear hb) | (go_at_call 8; refine (hrc _ (by assumption)).out.mono ?_; rintro e w4 ⟨rfl, hb⟩; have HI4 := Aside.mk (HI3.out.next hb); clear hb))
    go_wp2_with fail
    have HI4 := Aside.mk HI4.out.drew
    go_region_held3 (fun W => W.cell? ⟨w.heap.size, 0, none⟩ = some (.int .i64 x.Kind) ∧ W.cell? ⟨w.heap.size, 1, none⟩ = some (.int .i64 x.Dim) ∧ W.cell? ⟨w.heap.size, 2, none⟩ = some (.slice A0 x.Texts.length c0) ∧ W.cell? ⟨w.heap.size, 3, none⟩ = some (.int .i64 x.Lo) ∧ W.cell? ⟨w.heap.size, 4, none⟩ = some (.int .i64 x.Hi) ∧ W.cell? ⟨w.heap.size, 5, none⟩ = some (.slice A1 x.Kids.length c1) ∧ W.cell? ⟨w.heap.size + 1, 0, none⟩ = some (.int .i64 ft.Time) ∧ W.cell? ⟨w.heap.size + 1, 1, none⟩ = some (.slice B0 ft.Dims.length d0) ∧ W.cell? ⟨w.heap.size + 1, 2, none⟩ = some (.slice B1 ft.Meas.length d1)) (exact Keeps2.cells (by assumption)) (first | (go_at_call 9; refine (hsc _ (by assumption)).out.mono ?_; rintro e w5 ⟨rfl, hb⟩; have HI5 := Aside.mk (HI4.out.next hb); clear hb) | (go_at_call 10; refine (hch _ (by assumption)).out.mono ?_; rintro e w6 ⟨rfl, hb⟩; have HI6 := Aside.mk (HI5.out.next hb); clear hb))
    go_wp2
    go_ret
    exact ⟨rfl, HI6.out.1⟩
theorem law_holds_row (w : World) (x : Filter) (cs : List Value) (h : kFilter.K w Any x cs) (ft : Fact) (fs : List Value) (hf : kFact.K w Any ft fs) :
    Calls Try.prog 3 #[.agg cs.toArray, .agg fs.toArray] w fun e w' => e = .returned (.bool true) ∧ Below w.heap.size w w' := law_holds x ft cs fs w h hf
end Go.Proofs.Ytddjbhphhhdnfaa.K
