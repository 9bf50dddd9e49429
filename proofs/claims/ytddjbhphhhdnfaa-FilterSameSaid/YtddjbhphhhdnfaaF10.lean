/- The contract of filter.Holds: no condition. -/
import Derived.Test.YtddjbhphhhdnfaaF9
namespace Go.Proofs.Ytddjbhphhhdnfaa.K
open Go.RowKit
set_option linter.unusedVariables false
set_option linter.unusedSimpArgs false

/-- What Holds is known to tell of some filters. -/
def HoldsAt (ft : Fact) (ks : List Filter) : Prop := ∀ k ∈ ks, ∀ cs fs W, kFilter.K W Any k cs → kFact.K W Any ft fs → Calls Try.prog 11 #[.agg cs.toArray, .agg fs.toArray] W fun e W' => e = .returned (.bool (holdsF ft k)) ∧ Below W.heap.size W W'

theorem clo_one (ft : Fact) (ks : List Filter) (B : Nat) (fs : List Value) (w : World) (hB : w.heap[B]? = some (.cells fs.toArray 28 (0, 0))) (hft : kFact.K w Any ft fs) (ih : HoldsAt ft ks) : Tells kFilter Try.prog 22 #[.pointer (some ⟨B, 0, none⟩)] (holdsF ft) ks w := by
  intro k hk cs W hK hb
  have hBW := blk_below hB hb
  have HF := fun W' (h : Below W.heap.size W W') => Aside.mk (ih k hk cs fs W' (Kd.below hK h) (Kd.below (Kd.below hft hb) h))
  obtain ⟨A0, c0, A1, c1, rfl, q0, q1, q2, q3, q4, q5⟩ := kFilter_open hK
  obtain ⟨B0, d0, B1, d1, rfl, r0, r1, r2⟩ := kFact_open hft
  have i0 := (blk_cell hBW 0).trans rfl
  have i1 := (blk_cell hBW 1).trans rfl
  have i2 := (blk_cell hBW 2).trans rfl
  have hBl := blk_lt hBW
  have HB := Aside.mk (fun o => below_alloc (Below.refl _ W) o)
  clear hK hft hB hb ih q0 q1 q2 q3 q4 q5 r0 r1 r2 hBW
  go_enter Try.func22, Try.ntmps22
  go_wp2_with fail
  refine (HF _ (HB.out _)).out.mono ?_
  rintro e w2 ⟨rfl, hb2⟩
  go_wp2
  go_ret
  exact ⟨rfl, below_self (HB.out _) hb2⟩
theorem clo_other (ft : Fact) (ks : List Filter) (B : Nat) (fs : List Value) (w : World) (hB : w.heap[B]? = some (.cells fs.toArray 28 (0, 0))) (hft : kFact.K w Any ft fs) (ih : HoldsAt ft ks) : Tells kFilter Try.prog 23 #[.pointer (some ⟨B, 0, none⟩)] (fun k => !holdsF ft k) ks w := by
  intro k hk cs W hK hb
  have hBW := blk_below hB hb
  have HF := fun W' (h : Below W.heap.size W W') => Aside.mk (ih k hk cs fs W' (Kd.below hK h) (Kd.below (Kd.below hft hb) h))
  obtain ⟨A0, c0, A1, c1, rfl, q0, q1, q2, q3, q4, q5⟩ := kFilter_open hK
  obtain ⟨B0, d0, B1, d1, rfl, r0, r1, r2⟩ := kFact_open hft
  have i0 := (blk_cell hBW 0).trans rfl
  have i1 := (blk_cell hBW 1).trans rfl
  have i2 := (blk_cell hBW 2).trans rfl
  have hBl := blk_lt hBW
  have HB := Aside.mk (fun o => below_alloc (Below.refl _ W) o)
  clear hK hft hB hb ih q0 q1 q2 q3 q4 q5 r0 r1 r2 hBW
  show Calls Try.prog 23 _ W fun e W' => e = .returned (.bool (!holdsF ft k)) ∧ Below W.heap.size W W'
  generalize holdsF ft k = r at HF ⊢
  cases r
  all_goals
    go_enter Try.func23, Try.ntmps23
    go_wp2_with fail
    refine (HF _ (HB.out _)).out.mono ?_
    rintro e w2 ⟨rfl, hb2⟩
    go_wp2
    go_ret
    exact ⟨rfl, below_self (HB.out _) hb2⟩

theorem two_boxes (w : World) (cs : Array Value) (t : TypeId) (o : Obj) (v : Value) (hv : cs[0]? = some v) :
    Below w.heap.size w ((w.alloc (.cells cs t (0, 0))).alloc o).drew ∧ ((w.alloc (.cells cs t (0, 0))).alloc o).drew.heap[w.heap.size + 1]? = some o ∧ ((w.alloc (.cells cs t (0, 0))).alloc o).drew.cell? ⟨w.heap.size, 0, none⟩ = some v := by
  refine ⟨(below_alloc (below_alloc (Below.refl _ w) _) _).drew, ?_, ?_⟩
  · have := blk_new (w.alloc (.cells cs t (0, 0))) o
    rw [show (w.alloc (.cells cs t (0, 0))).heap.size = w.heap.size + 1 by simp] at this
    exact this
  · exact (blk_cell (blk_alloc (blk_new w (.cells cs t (0, 0))) o) 0).trans hv

set_option maxHeartbeats 4000000 in
set_option maxRecDepth 100000 in
theorem holds_23 (ft : Fact) (x : Filter) (cs fs : List Value) (w : World) (h : kFilter.K w Any x cs) (hf : kFact.K w Any ft fs) (k23 : x.Kind = 2 ∨ x.Kind = 3) (ih : HoldsAt ft (kidsOf x)) :
    Calls Try.prog 11 #[.agg cs.toArray, .agg fs.toArray] w fun e w' => e = .returned (.bool (holdsF ft x)) ∧ Below w.heap.size w w' := by
  have HB := Aside.mk (fun o o' => below_alloc (below_alloc (Below.refl _ w) o) o')
  have HX := Aside.mk h
  have HFT := Aside.mk hf
  have HIH := Aside.mk ih
  obtain ⟨A0, c0, A1, c1, rfl, q0, q1, q2, q3, q4, q5⟩ := kFilter_open h
  obtain ⟨B0, d0, B1, d1, rfl, r0, r1, r2⟩ := kFact_open hf
  clear h hf ih q0 q1 q2 q3 q4 q5 r0 r1 r2
  have HF2 := Aside.mk (fun (W : World) (hb : Below w.heap.size w W) (h : W.heap[w.heap.size + 1]? = some (.cells #[.int .i64 ft.Time, .slice B0 ft.Dims.length d0, .slice B1 ft.Meas.length d1] 28 (0, 0))) => clo_other ft (kidsOf x) (w.heap.size + 1) _ W h (Kd.below HFT.out hb) HIH.out)
  have HKK := fun (W : World) (hb : Aside (Below w.heap.size w W ∧ W.heap[w.heap.size + 1]? = some (.cells #[.int .i64 ft.Time, .slice B0 ft.Dims.length d0, .slice B1 ft.Meas.length d1] 28 (0, 0)) ∧ W.cell? ⟨w.heap.size, 0, none⟩ = some (.int .i64 x.Kind))) => Aside.mk (kids_any x _ W Any (Kd.below HX.out hb.out.1))
  have HCC := fun (W : World) (hb : Aside (Below w.heap.size w W ∧ W.heap[w.heap.size + 1]? = some (.cells #[.int .i64 ft.Time, .slice B0 ft.Dims.length d0, .slice B1 ft.Meas.length d1] 28 (0, 0)) ∧ W.cell? ⟨w.heap.size, 0, none⟩ = some (.int .i64 x.Kind))) A c (hC : Aside (kFilter.C W Any A (kidsOf x).length (kidsOf x))) =>
    Aside.mk (containsF 23 #[.pointer (some ⟨w.heap.size + 1, 0, none⟩)] (enters_of Try.func23 (by kernel_rfl) rfl) (fun k => !holdsF ft k) (kidsOf x) A c W hC.out (HF2.out W hb.out.1 hb.out.2.1))
  have HNX := fun (W W' : World) (hb : Aside (Below w.heap.size w W ∧ W.heap[w.heap.size + 1]? = some (.cells #[.int .i64 ft.Time, .slice B0 ft.Dims.length d0, .slice B1 ft.Meas.length d1] 28 (0, 0)) ∧ W.cell? ⟨w.heap.size, 0, none⟩ = some (.int .i64 x.Kind))) (h : Below W.heap.size W W') =>
    Aside.mk (show Below w.heap.size w W' ∧ W'.heap[w.heap.size + 1]? = some (.cells #[.int .i64 ft.Time, .slice B0 ft.Dims.length d0, .slice B1 ft.Meas.length d1] 28 (0, 0)) ∧ W'.cell? ⟨w.heap.size, 0, none⟩ = some (.int .i64 x.Kind) from ⟨below_self hb.out.1 h, blk_below hb.out.2.1 h, (h.cell (World.block_lt_of_cell? W _ hb.out.2.2)).trans hb.out.2.2⟩)
  rcases k23 with k2 | k3
  · have HR := Aside.mk (show holdsF ft x = (kidsOf x).any (fun k => !holdsF ft k) by rw [holdsF_eq, if_neg (by omega), if_pos k2])
    rw [HR.out]
    rw [k2] at HKK HCC HNX
    generalize (kidsOf x).any (fun k => !holdsF ft k) = r at HCC ⊢
    have HA0 := Aside.mk (two_boxes w #[.int .i64 2, .int .i64 x.Dim, .slice A0 x.Texts.length c0, .int .i64 x.Lo, .int .i64 x.Hi, .slice A1 x.Kids.length c1] 25 (.cells #[.int .i64 ft.Time, .slice B0 ft.Dims.length d0, .slice B1 ft.Meas.length d1] 28 (0, 0)) (.int .i64 2) rfl)
    clear HF2 HB HX HFT HIH HR
    cases r
    all_goals
      go_enter Try.func11, Try.ntmps11
      go_wp2_with fail
      go_region_with (first | (go_at_call 25; refine (HKK _ (by assumption)).out.mono ?_; rintro e w2 ⟨A, c, rfl, hl, hC, hb⟩; have HA2 := HNX _ _ (by assumption) hb; have HC := Aside.mk hC; have i0 := HA2.out.2.2; clear hC hb) | (go_at_call 24; refine (HCC _ (by assumption) _ _ (by assumption)).out.mono ?_; rintro e w3 ⟨rfl, hb⟩; have HA3 := HNX _ _ (by assumption) hb; have j0 := HA3.out.2.2; clear hb))
      all_goals
        go_wp2
        go_ret
        exact ⟨rfl, HA3.out.1⟩
  · have HR := Aside.mk (show holdsF ft x = !(kidsOf x).any (fun k => !holdsF ft k) by rw [holdsF_eq, if_neg (by omega), if_neg (by omega), if_pos k3, List.not_any_eq_all_not]; simp)
    rw [HR.out]
    rw [k3] at HKK HCC HNX
    generalize (kidsOf x).any (fun k => !holdsF ft k) = r at HCC ⊢
    have HA0 := Aside.mk (two_boxes w #[.int .i64 3, .int .i64 x.Dim, .slice A0 x.Texts.length c0, .int .i64 x.Lo, .int .i64 x.Hi, .slice A1 x.Kids.length c1] 25 (.cells #[.int .i64 ft.Time, .slice B0 ft.Dims.length d0, .slice B1 ft.Meas.length d1] 28 (0, 0)) (.int .i64 3) rfl)
    clear HF2 HB HX HFT HIH HR
    cases r
    all_goals
      go_enter Try.func11, Try.ntmps11
      go_wp2_with fail
      go_region_with (first | (go_at_call 25; refine (HKK _ (by assumption)).out.mono ?_; rintro e w2 ⟨A, c, rfl, hl, hC, hb⟩; have HA2 := HNX _ _ (by assumption) hb; have HC := Aside.mk hC; have i0 := HA2.out.2.2; clear hC hb) | (go_at_call 24; refine (HCC _ (by assumption) _ _ (by assumption)).out.mono ?_; rintro e w3 ⟨rfl, hb⟩; have HA3 := HNX _ _ (by assumption) hb; have j0 := HA3.out.2.2; clear hb))
      all_goals
        go_wp2
        go_ret
        exact ⟨rfl, HA3.out.1⟩

set_option maxHeartbeats 4000000 in
set_option maxRecDepth 100000 in
theorem holds_14 (ft : Fact) (x : Filter) (cs fs : List Value) (w : World) (h : kFilter.K w Any x cs) (hf : kFact.K w Any ft fs) (k14 : x.Kind = 1 ∨ x.Kind = 4) (ih : HoldsAt ft (kidsOf x)) :
    Calls Try.prog 11 #[.agg cs.toArray, .agg fs.toArray] w fun e w' => e = .returned (.bool (holdsF ft x)) ∧ Below w.heap.size w w' := by
  have HB := Aside.mk (fun o o' => below_alloc (below_alloc (Below.refl _ w) o) o')
  have HFT := Aside.mk hf
  have HIH := Aside.mk ih
  obtain ⟨A0, c0, A1, c1, rfl, q0, q1, q2, q3, q4, ⟨q5, q6, q7⟩⟩ := kFilter_open h
  obtain ⟨B0, d0, B1, d1, rfl, r0, r1, r2⟩ := kFact_open hf
  rcases k14 with k1 | k4
  · have HR := Aside.mk (show holdsF ft x = true by rw [holdsF_eq, if_pos k1])
    clear h hf ih q0 q1 q2 q3 q4 r0 r1 r2 q5 q6 q7
    go_enter Try.func11, Try.ntmps11
    go_wp2
    go_ret
    exact ⟨ret_bool HR.out.symm, HB.out _ _⟩
  · have hk : kidsOf x = x.Kids := by simp [kidsOf, k4]
    have HR := Aside.mk (show holdsF ft x = x.Kids.any (holdsF ft) by rw [holdsF_eq, if_neg (by omega), if_neg (by omega), if_neg (by omega), if_pos k4, hk])
    rw [hk] at HIH
    have HCC := fun o => Aside.mk (containsF 22 #[.pointer (some ⟨w.heap.size + 1, 0, none⟩)] (enters_of Try.func22 (by kernel_rfl) rfl) (holdsF ft) x.Kids A1 c1 ((w.alloc o).alloc (.cells #[.int .i64 ft.Time, .slice B0 ft.Dims.length d0, .slice B1 ft.Meas.length d1] 28 (0, 0))) (Kd.C_below q7 (HB.out _ _))
      (clo_one ft x.Kids (w.heap.size + 1) _ _ (by have := blk_new (w.alloc o) (.cells #[.int .i64 ft.Time, .slice B0 ft.Dims.length d0, .slice B1 ft.Meas.length d1] 28 (0, 0)); rw [show (w.alloc o).heap.size = w.heap.size + 1 by simp] at this; exact this) (Kd.below HFT.out (HB.out _ _)) HIH.out))
    clear h hf ih q0 q1 q2 q3 q4 r0 r1 r2 q5 q6 q7 HIH hk
    rw [HR.out]
    generalize x.Kids.any (holdsF ft) = r at HCC ⊢
    go_enter Try.func11, Try.ntmps11
    go_wp2_with fail
    refine (HCC _).out.mono ?_
    rintro e w2 ⟨rfl, hb⟩
    go_wp2
    go_ret
    exact ⟨rfl, below_self (HB.out _ _) hb⟩

theorem holds_any (ft : Fact) : ∀ n x, ht x ≤ n → ∀ cs fs w, kFilter.K w Any x cs → kFact.K w Any ft fs →
    Calls Try.prog 11 #[.agg cs.toArray, .agg fs.toArray] w fun e w' => e = .returned (.bool (holdsF ft x)) ∧ Below w.heap.size w w' := by
  intro n
  induction n with
  | zero => intro x hx; rw [ht_eq] at hx; omega
  | succ n ih =>
    intro x hx cs fs w h hf
    have hih : HoldsAt ft (kidsOf x) := fun k hk cs fs W hK hF => ih k (by have := ht_kid hk; omega) cs fs W hK hF
    by_cases k1 : x.Kind = 1
    · exact holds_14 ft x cs fs w h hf (.inl k1) hih
    by_cases k2 : x.Kind = 2
    · exact holds_23 ft x cs fs w h hf (.inl k2) hih
    by_cases k3 : x.Kind = 3
    · exact holds_23 ft x cs fs w h hf (.inr k3) hih
    by_cases k4 : x.Kind = 4
    · exact holds_14 ft x cs fs w h hf (.inr k4) hih
    have he : holdsF ft x = leafH ft x := by rw [holdsF_eq, if_neg k1, if_neg k2, if_neg k3, if_neg k4]
    rw [he]
    by_cases k8 : x.Kind = 8
    · exact holds_meas ft x cs fs w h hf k8
    · exact holds_dim ft x cs fs w h hf k1 k2 k3 k4 k8
end Go.Proofs.Ytddjbhphhhdnfaa.K
