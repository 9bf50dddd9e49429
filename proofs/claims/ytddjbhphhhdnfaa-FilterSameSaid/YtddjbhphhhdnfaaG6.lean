/- The contracts of filter.Not and filter.made. No condition. -/
import Derived.Test.YtddjbhphhhdnfaaG5
namespace Go.Proofs.Ytddjbhphhhdnfaa.K
open Go.RowKit
set_option linter.unusedVariables false
set_option linter.unusedSimpArgs false

theorem size_range (x : Filter) : 1 ≤ sizeF x ∧ sizeF x ≤ 201 := by
  have := size_pos x
  unfold sizeF
  split <;> omega

set_option maxHeartbeats 8000000 in
theorem not_many (x : Filter) (cs : List Value) (w : World) (h : kFilter.K w Any x cs) (hs : 200 < sizeF x) :
    Calls Try.prog 13 #[.agg cs.toArray] w (Gives (turnF true x) w) := by
  have hx := h
  obtain ⟨A0, c0, A1, c1, rfl, q0, q1, q2, q3, q4, q5⟩ := kFilter_open h
  have HR := Aside.mk (show turnF true x = zFilter by rw [turnF_eq, if_pos ⟨rfl, hs⟩])
  rw [HR.out]
  have HS := Aside.mk (fun (W : World) (hb : Below w.heap.size w W) => size_any x _ W (Kd.below hx hb))
  generalize sizeF x = r at HS hs
  clear h q0 q1 q2 q3 q4 q5 hx HR
  go_enter Try.func13, Try.ntmps13
  go_wp2_with fail
  generalize hW : (w.alloc _).alloc _ = W
  obtain ⟨b1, b2, hbel⟩ := two_known hW
  have hlt := blk_lt b2
  refine (HS.out W hbel).mono ?_
  rintro e w1 ⟨rfl, hb⟩
  have HB1 := Aside.mk (below_self hbel hb)
  have b1 := blk_below b1 hb
  have b2 := blk_below b2 hb
  have hlta := blk_lt b1
  have hltb := blk_lt b2
  have HP1 := Aside.mk b1
  have HP2 := Aside.mk b2
  have HZ := Aside.mk hb.size
  have i0 := (blk_cell b1 0).trans rfl
  have i1 := (blk_cell b1 1).trans rfl
  have i2 := (blk_cell b1 2).trans rfl
  have i3 := (blk_cell b1 3).trans rfl
  have i4 := (blk_cell b1 4).trans rfl
  have i5 := (blk_cell b1 5).trans rfl
  have r0 := (blk_cell b2 0).trans rfl
  have r1 := (blk_cell b2 1).trans rfl
  have r2 := (blk_cell b2 2).trans rfl
  have r3 := (blk_cell b2 3).trans rfl
  have r4 := (blk_cell b2 4).trans rfl
  have r5 := (blk_cell b2 5).trans rfl
  have fy := fun i => blk_frozen b2 i
  clear hb hbel hW b1 b2
  go_wp2
  have hg := fun v0 v1 v2 v3 v4 v5 => gives6 (v0 := v0) (v1 := v1) (v2 := v2) (v3 := v3) (v4 := v4) (v5 := v5) (Nat.le_succ _) hlt HB1.out (bare_leaf 0 0 0 0 rfl rfl rfl rfl)
  exact bodyPost_ret (v := .agg #[.int .i64 0, .int .i64 0, .slice none 0 0, .int .i64 0, .int .i64 0, .slice none 0 0]) (by simp [results, Try.results13, go_sem, r0, r1, r2, r3, r4, r5]) rfl ⟨[_, _, _, _, _, _], rfl, (hg _ _ _ _ _ _).1, (hg _ _ _ _ _ _).2⟩

set_option maxHeartbeats 8000000 in
theorem not_3 (x : Filter) (cs : List Value) (w : World) (h : kFilter.K w Any x cs) (hs : ¬ 200 < sizeF x) (k : x.Kind = 3) (ih : TurnAt (kidsOf x)) :
    Calls Try.prog 13 #[.agg cs.toArray] w (Gives (turnF true x) w) := by
  have hx := h
  obtain ⟨A0, c0, A1, c1, rfl, q0, q1, q2, q3, q4, q5⟩ := kFilter_open h
  have HR := Aside.mk (show turnF true x = ⟨4, 0, [], 0, 0, (kidsOf x).map (turnF true)⟩ by rw [turnF_eq, if_neg (by omega), if_neg (by omega), if_pos (by omega), k]; rfl)
  rw [HR.out]
  have HS := Aside.mk (fun (W : World) (hb : Below w.heap.size w W) => size_any x _ W (Kd.below hx hb))
  have HE := Aside.mk (fun (W : World) (hb : Below w.heap.size w W) => each_to 13 enters13 (turnF true) x _ W (Kd.below hx hb) (fun y hy => ih y hy true))
  have hr := size_range x
  generalize sizeF x = r at HS hs hr
  have hsb : decide (200 < r) = false := by simpa using hs
  generalize (kidsOf x).map (turnF true) = zs at HE ⊢
  rw [k] at HS HE ⊢
  clear h q0 q1 q2 q3 q4 q5 hx HR k ih hs
  go_enter Try.func13, Try.ntmps13
  go_wp2_with fail
  generalize hW : (w.alloc _).alloc _ = W
  obtain ⟨b1, b2, hbel⟩ := two_known hW
  have hlt := blk_lt b2
  refine (HS.out W hbel).mono ?_
  rintro e w1 ⟨rfl, hb⟩
  have HB1 := Aside.mk (below_self hbel hb)
  have b1 := blk_below b1 hb
  have b2 := blk_below b2 hb
  have hlta := blk_lt b1
  have hltb := blk_lt b2
  have HP1 := Aside.mk b1
  have HP2 := Aside.mk b2
  have HZ := Aside.mk hb.size
  have i0 := (blk_cell b1 0).trans rfl
  have i1 := (blk_cell b1 1).trans rfl
  have i2 := (blk_cell b1 2).trans rfl
  have i3 := (blk_cell b1 3).trans rfl
  have i4 := (blk_cell b1 4).trans rfl
  have i5 := (blk_cell b1 5).trans rfl
  clear hb hbel hW b1 b2
  go_wp2_with fail
  refine (HE.out _ HB1.out).mono ?_
  rintro e w2 ⟨ys, A, c, rfl, hys, hc, hlen, hC, hb⟩
  have HB2 := Aside.mk (below_self HB1.out hb)
  have HP2 := Aside.mk (blk_below HP2.out hb)
  have HY := Aside.mk (And.intro hys (And.intro hc (And.intro hlen hC)))
  clear hys hc hlen hC hb i0 i1 i2 i3 i4 i5 HP1
  go_wp2_with fail
  refine (with_any _ _ _ _ _).mono ?_
  rintro e w3 ⟨rfl, hb⟩
  have HB3 := Aside.mk (below_self HB2.out hb)
  have HB23 := Aside.mk hb
  have b2 := blk_below HP2.out hb
  have hltc := blk_lt b2
  have r0 := (blk_cell b2 0).trans rfl
  have r1 := (blk_cell b2 1).trans rfl
  have r2 := (blk_cell b2 2).trans rfl
  have r3 := (blk_cell b2 3).trans rfl
  have r4 := (blk_cell b2 4).trans rfl
  have r5 := (blk_cell b2 5).trans rfl
  have fy := fun i => blk_frozen b2 i
  clear hb b2
  go_wp2
  obtain ⟨rfl, hc, hlen, hC⟩ := HY.out
  have hg := fun v0 v1 v2 v3 v4 v5 => gives6 (W := w1) (v0 := v0) (v1 := v1) (v2 := v2) (v3 := v3) (v4 := v4) (v5 := v5) (Nat.le_succ _) hltb HB3.out (kidsFilter 4 rfl hc hlen (Kd.C_below hC HB23.out))
  exact bodyPost_ret (v := .agg #[.int .i64 4, .int .i64 0, .slice none 0 0, .int .i64 0, .int .i64 0, .slice A ys.length c]) (by simp [results, Try.results13, go_sem, r0, r1, r2, r3, r4, r5]) rfl ⟨[_, _, _, _, _, _], rfl, (hg _ _ _ _ _ _).1, (hg _ _ _ _ _ _).2⟩

set_option maxHeartbeats 8000000 in
theorem not_4 (x : Filter) (cs : List Value) (w : World) (h : kFilter.K w Any x cs) (hs : ¬ 200 < sizeF x) (k : x.Kind = 4) (ih : TurnAt (kidsOf x)) :
    Calls Try.prog 13 #[.agg cs.toArray] w (Gives (turnF true x) w) := by
  have hx := h
  obtain ⟨A0, c0, A1, c1, rfl, q0, q1, q2, q3, q4, q5⟩ := kFilter_open h
  have HR := Aside.mk (show turnF true x = ⟨3, 0, [], 0, 0, (kidsOf x).map (turnF true)⟩ by rw [turnF_eq, if_neg (by omega), if_neg (by omega), if_pos (by omega), k]; rfl)
  rw [HR.out]
  have HS := Aside.mk (fun (W : World) (hb : Below w.heap.size w W) => size_any x _ W (Kd.below hx hb))
  have HE := Aside.mk (fun (W : World) (hb : Below w.heap.size w W) => each_to 13 enters13 (turnF true) x _ W (Kd.below hx hb) (fun y hy => ih y hy true))
  have hr := size_range x
  generalize sizeF x = r at HS hs hr
  have hsb : decide (200 < r) = false := by simpa using hs
  generalize (kidsOf x).map (turnF true) = zs at HE ⊢
  rw [k] at HS HE ⊢
  clear h q0 q1 q2 q3 q4 q5 hx HR k ih hs
  go_enter Try.func13, Try.ntmps13
  go_wp2_with fail
  generalize hW : (w.alloc _).alloc _ = W
  obtain ⟨b1, b2, hbel⟩ := two_known hW
  have hlt := blk_lt b2
  refine (HS.out W hbel).mono ?_
  rintro e w1 ⟨rfl, hb⟩
  have HB1 := Aside.mk (below_self hbel hb)
  have b1 := blk_below b1 hb
  have b2 := blk_below b2 hb
  have hlta := blk_lt b1
  have hltb := blk_lt b2
  have HP1 := Aside.mk b1
  have HP2 := Aside.mk b2
  have HZ := Aside.mk hb.size
  have i0 := (blk_cell b1 0).trans rfl
  have i1 := (blk_cell b1 1).trans rfl
  have i2 := (blk_cell b1 2).trans rfl
  have i3 := (blk_cell b1 3).trans rfl
  have i4 := (blk_cell b1 4).trans rfl
  have i5 := (blk_cell b1 5).trans rfl
  clear hb hbel hW b1 b2
  go_wp2_with fail
  refine (HE.out _ HB1.out).mono ?_
  rintro e w2 ⟨ys, A, c, rfl, hys, hc, hlen, hC, hb⟩
  have HB2 := Aside.mk (below_self HB1.out hb)
  have HP2 := Aside.mk (blk_below HP2.out hb)
  have HY := Aside.mk (And.intro hys (And.intro hc (And.intro hlen hC)))
  clear hys hc hlen hC hb i0 i1 i2 i3 i4 i5 HP1
  go_wp2_with fail
  refine (with_any _ _ _ _ _).mono ?_
  rintro e w3 ⟨rfl, hb⟩
  have HB3 := Aside.mk (below_self HB2.out hb)
  have HB23 := Aside.mk hb
  have b2 := blk_below HP2.out hb
  have hltc := blk_lt b2
  have r0 := (blk_cell b2 0).trans rfl
  have r1 := (blk_cell b2 1).trans rfl
  have r2 := (blk_cell b2 2).trans rfl
  have r3 := (blk_cell b2 3).trans rfl
  have r4 := (blk_cell b2 4).trans rfl
  have r5 := (blk_cell b2 5).trans rfl
  have fy := fun i => blk_frozen b2 i
  clear hb b2
  go_wp2
  obtain ⟨rfl, hc, hlen, hC⟩ := HY.out
  have hg := fun v0 v1 v2 v3 v4 v5 => gives6 (W := w1) (v0 := v0) (v1 := v1) (v2 := v2) (v3 := v3) (v4 := v4) (v5 := v5) (Nat.le_succ _) hltb HB3.out (kidsFilter 3 rfl hc hlen (Kd.C_below hC HB23.out))
  exact bodyPost_ret (v := .agg #[.int .i64 3, .int .i64 0, .slice none 0 0, .int .i64 0, .int .i64 0, .slice A ys.length c]) (by simp [results, Try.results13, go_sem, r0, r1, r2, r3, r4, r5]) rfl ⟨[_, _, _, _, _, _], rfl, (hg _ _ _ _ _ _).1, (hg _ _ _ _ _ _).2⟩

set_option maxHeartbeats 8000000 in
theorem not_2 (x : Filter) (cs : List Value) (w : World) (h : kFilter.K w Any x cs) (hs : ¬ 200 < sizeF x) (k : x.Kind = 2) (hl : 0 < x.Kids.length) (ih : TurnAt (kidsOf x)) :
    Calls Try.prog 13 #[.agg cs.toArray] w (Gives (turnF true x) w) := by
  have hx := h
  obtain ⟨A0, c0, A1, c1, rfl, q0, q1, q2, q3, q4, q5⟩ := kFilter_open h
  have hk0 : kidsOf x = [x.Kids[0]] := by
    rw [kidsOf, if_pos k]
    exact take_one hl
  have HR := Aside.mk (show turnF true x = turnF false x.Kids[0] by rw [turnF_eq, if_neg (by omega), if_pos k, hk0]; rfl)
  rw [HR.out]
  have HS := Aside.mk (fun (W : World) (hb : Below w.heap.size w W) => size_any x _ W (Kd.below hx hb))
  obtain ⟨ad, B0, d0, B1, d1, hA, hK, hm⟩ := kid_at q5.2.2 hl
  have HI := Aside.mk (fun W (hb : Below w.heap.size w W) => ih x.Kids[0] (by rw [hk0]; simp) false _ W (Kd.below hK hb))
  simp only [Bool.false_eq_true, if_false] at HI
  subst hA
  have HM := Aside.mk hm
  have hr := size_range x
  generalize sizeF x = r at HS hs hr
  have hsb : decide (200 < r) = false := by simpa using hs
  have hli : (0 : Int) < (x.Kids.length : Int) := by omega
  generalize turnF false x.Kids[0] = y at HI ⊢
  rw [k] at HS ⊢
  clear h q0 q1 q2 q3 q4 q5 hx HR k ih hs hK hm hk0
  go_enter Try.func13, Try.ntmps13
  go_wp2_with fail
  generalize hW : (w.alloc _).alloc _ = W
  obtain ⟨b1, b2, hbel⟩ := two_known hW
  have hlt := blk_lt b2
  refine (HS.out W hbel).mono ?_
  rintro e w1 ⟨rfl, hb⟩
  have HB1 := Aside.mk (below_self hbel hb)
  have b1 := blk_below b1 hb
  have b2 := blk_below b2 hb
  have hlta := blk_lt b1
  have hltb := blk_lt b2
  have HP1 := Aside.mk b1
  have HP2 := Aside.mk b2
  have HZ := Aside.mk hb.size
  have i0 := (blk_cell b1 0).trans rfl
  have i1 := (blk_cell b1 1).trans rfl
  have i2 := (blk_cell b1 2).trans rfl
  have i3 := (blk_cell b1 3).trans rfl
  have i4 := (blk_cell b1 4).trans rfl
  have i5 := (blk_cell b1 5).trans rfl
  obtain ⟨m0, m1, m2, m3, m4, m5⟩ := HM.out _ HB1.out
  clear hb hbel hW b1 b2
  go_wp2_with fail
  refine (HI.out _ HB1.out).mono ?_
  rintro e w2 ⟨cs2, rfl, hK2, hb⟩
  have HB := Aside.mk (below_self HB1.out hb)
  have b2 := blk_below HP2.out hb
  have hlt2 := blk_lt b2
  have r0 := (blk_cell b2 0).trans rfl
  have r1 := (blk_cell b2 1).trans rfl
  have r2 := (blk_cell b2 2).trans rfl
  have r3 := (blk_cell b2 3).trans rfl
  have r4 := (blk_cell b2 4).trans rfl
  have r5 := (blk_cell b2 5).trans rfl
  have fy := fun i => blk_frozen b2 i
  have HK2 := Aside.mk hK2
  obtain ⟨E0, f0, E1, f1, rfl, p0, p1, p2, p3, p4, p5⟩ := kFilter_open hK2
  clear p0 p1 p2 p3 p4 p5 hK2 hb b2 i0 i1 i2 i3 i4 i5 m0 m1 m2 m3 m4 m5
  go_wp2
  have hg := fun v0 v1 v2 v3 v4 v5 => gives6 (v0 := v0) (v1 := v1) (v2 := v2) (v3 := v3) (v4 := v4) (v5 := v5) (Nat.le_succ _) hltb HB.out HK2.out
  exact bodyPost_ret (v := .agg #[.int .i64 y.Kind, .int .i64 y.Dim, .slice E0 y.Texts.length f0, .int .i64 y.Lo, .int .i64 y.Hi, .slice E1 y.Kids.length f1]) (by simp [results, Try.results13, go_sem, r0, r1, r2, r3, r4, r5]) rfl ⟨[_, _, _, _, _, _], rfl, (hg _ _ _ _ _ _).1, (hg _ _ _ _ _ _).2⟩

set_option maxHeartbeats 8000000 in
theorem not_bare (x : Filter) (cs : List Value) (w : World) (h : kFilter.K w Any x cs) (hs : ¬ 200 < sizeF x) (k : (x.Kind = 2 ∧ x.Kids.length = 0) ∨ (¬ x.Kind = 2 ∧ ¬ x.Kind = 3 ∧ ¬ x.Kind = 4)) :
    Calls Try.prog 13 #[.agg cs.toArray] w (Gives (turnF true x) w) := by
  have hx := h
  obtain ⟨A0, c0, A1, c1, rfl, q0, q1, q2, q3, q4, q5⟩ := kFilter_open h
  have HR := Aside.mk (show turnF true x = ⟨2, 0, [], 0, 0, [bareF x]⟩ by
    rw [turnF_eq, if_neg (by omega)]
    rcases k with ⟨k, hl⟩ | ⟨k2, k3, k4⟩
    · rw [if_pos k, kidsOf, if_pos k, List.eq_nil_of_length_eq_zero hl]; rfl
    · rw [if_neg k2, if_neg (by omega)]; rfl)
  rw [HR.out]
  have HS := Aside.mk (fun (W : World) (hb : Below w.heap.size w W) => size_any x _ W (Kd.below hx hb))
  have HE := Aside.mk (fun (W : World) (hb : Below w.heap.size w W) => bare_any x _ W (Kd.below hx hb))
  have hr := size_range x
  generalize sizeF x = r at HS hs hr
  have hsb : decide (200 < r) = false := by simpa using hs
  generalize bareF x = y at HE ⊢
  clear h q0 q1 q2 q3 q4 q5 hx HR hs
  rcases k with ⟨k, hl⟩ | ⟨k2, k3, k4⟩
  · rw [hl, k] at HS HE ⊢
    clear k hl
    go_enter Try.func13, Try.ntmps13
    go_wp2_with fail
    generalize hW : (w.alloc _).alloc _ = W
    obtain ⟨b1, b2, hbel⟩ := two_known hW
    have hlt := blk_lt b2
    refine (HS.out W hbel).mono ?_
    rintro e w1 ⟨rfl, hb⟩
    have HB1 := Aside.mk (below_self hbel hb)
    have b1 := blk_below b1 hb
    have b2 := blk_below b2 hb
    have hlta := blk_lt b1
    have hltb := blk_lt b2
    have HP1 := Aside.mk b1
    have HP2 := Aside.mk b2
    have HZ := Aside.mk hb.size
    have i0 := (blk_cell b1 0).trans rfl
    have i1 := (blk_cell b1 1).trans rfl
    have i2 := (blk_cell b1 2).trans rfl
    have i3 := (blk_cell b1 3).trans rfl
    have i4 := (blk_cell b1 4).trans rfl
    have i5 := (blk_cell b1 5).trans rfl
    clear hb hbel hW b1 b2
    go_wp2_with fail
    refine (HE.out _ HB1.out).mono ?_
    rintro e w2 ⟨cs2, rfl, hK2, hb⟩
    have HB2 := Aside.mk (below_self HB1.out hb)
    have HP2 := Aside.mk (blk_below HP2.out hb)
    have hz2 := hb.size
    have HK2 := Aside.mk hK2
    obtain ⟨E0, f0, E1, f1, rfl, p0, p1, p2, p3, p4, p5⟩ := kFilter_open hK2
    clear p0 p1 p2 p3 p4 p5 hK2 hb i0 i1 i2 i3 i4 i5 HP1
    have HO := Aside.mk (C_one 25 HK2.out (show New w1 w2.heap.size from hz2))
    have HA := Aside.mk (fun o => below_alloc (Below.refl _ w2) o)
    go_wp2_with fail
    refine (with_any _ _ _ _ _).mono ?_
    rintro e w3 ⟨rfl, hb⟩
    have HB3 := Aside.mk (below_self HB2.out (below_self (HA.out _) hb))
    have HB23 := Aside.mk hb
    have b2 := blk_below (blk_alloc HP2.out _) hb
    have hltc := blk_lt b2
    have r0 := (blk_cell b2 0).trans rfl
    have r1 := (blk_cell b2 1).trans rfl
    have r2 := (blk_cell b2 2).trans rfl
    have r3 := (blk_cell b2 3).trans rfl
    have r4 := (blk_cell b2 4).trans rfl
    have r5 := (blk_cell b2 5).trans rfl
    have fy := fun i => blk_frozen b2 i
    clear hb b2
    go_wp2
    have hg := fun v0 v1 v2 v3 v4 v5 => gives6 (W := w1) (v0 := v0) (v1 := v1) (v2 := v2) (v3 := v3) (v4 := v4) (v5 := v5) (Nat.le_succ _) hltb HB3.out (kidsFilter (ys := [y]) (c := 1) 2 rfl (Nat.le_refl _) (by simp) (Kd.C_below HO.out HB23.out))
    exact bodyPost_ret (v := .agg #[.int .i64 2, .int .i64 0, .slice none 0 0, .int .i64 0, .int .i64 0, .slice (some ⟨w2.heap.size, 0, none⟩) 1 1]) (by simp [results, Try.results13, go_sem, r0, r1, r2, r3, r4, r5]) rfl ⟨[_, _, _, _, _, _], rfl, (hg _ _ _ _ _ _).1, (hg _ _ _ _ _ _).2⟩
  · have k2b : (x.Kind == 2) = false := by simpa using k2
    have k3b : (x.Kind == 3) = false := by simpa using k3
    have k4b : (x.Kind == 4) = false := by simpa using k4
    go_enter Try.func13, Try.ntmps13
    go_wp2_with fail
    generalize hW : (w.alloc _).alloc _ = W
    obtain ⟨b1, b2, hbel⟩ := two_known hW
    have hlt := blk_lt b2
    refine (HS.out W hbel).mono ?_
    rintro e w1 ⟨rfl, hb⟩
    have HB1 := Aside.mk (below_self hbel hb)
    have b1 := blk_below b1 hb
    have b2 := blk_below b2 hb
    have hlta := blk_lt b1
    have hltb := blk_lt b2
    have HP1 := Aside.mk b1
    have HP2 := Aside.mk b2
    have HZ := Aside.mk hb.size
    have i0 := (blk_cell b1 0).trans rfl
    have i1 := (blk_cell b1 1).trans rfl
    have i2 := (blk_cell b1 2).trans rfl
    have i3 := (blk_cell b1 3).trans rfl
    have i4 := (blk_cell b1 4).trans rfl
    have i5 := (blk_cell b1 5).trans rfl
    clear hb hbel hW b1 b2
    go_wp2_with fail
    refine (HE.out _ HB1.out).mono ?_
    rintro e w2 ⟨cs2, rfl, hK2, hb⟩
    have HB2 := Aside.mk (below_self HB1.out hb)
    have HP2 := Aside.mk (blk_below HP2.out hb)
    have hz2 := hb.size
    have HK2 := Aside.mk hK2
    obtain ⟨E0, f0, E1, f1, rfl, p0, p1, p2, p3, p4, p5⟩ := kFilter_open hK2
    clear p0 p1 p2 p3 p4 p5 hK2 hb i0 i1 i2 i3 i4 i5 HP1
    have HO := Aside.mk (C_one 25 HK2.out (show New w1 w2.heap.size from hz2))
    have HA := Aside.mk (fun o => below_alloc (Below.refl _ w2) o)
    go_wp2_with fail
    refine (with_any _ _ _ _ _).mono ?_
    rintro e w3 ⟨rfl, hb⟩
    have HB3 := Aside.mk (below_self HB2.out (below_self (HA.out _) hb))
    have HB23 := Aside.mk hb
    have b2 := blk_below (blk_alloc HP2.out _) hb
    have hltc := blk_lt b2
    have r0 := (blk_cell b2 0).trans rfl
    have r1 := (blk_cell b2 1).trans rfl
    have r2 := (blk_cell b2 2).trans rfl
    have r3 := (blk_cell b2 3).trans rfl
    have r4 := (blk_cell b2 4).trans rfl
    have r5 := (blk_cell b2 5).trans rfl
    have fy := fun i => blk_frozen b2 i
    clear hb b2
    go_wp2
    have hg := fun v0 v1 v2 v3 v4 v5 => gives6 (W := w1) (v0 := v0) (v1 := v1) (v2 := v2) (v3 := v3) (v4 := v4) (v5 := v5) (Nat.le_succ _) hltb HB3.out (kidsFilter (ys := [y]) (c := 1) 2 rfl (Nat.le_refl _) (by simp) (Kd.C_below HO.out HB23.out))
    exact bodyPost_ret (v := .agg #[.int .i64 2, .int .i64 0, .slice none 0 0, .int .i64 0, .int .i64 0, .slice (some ⟨w2.heap.size, 0, none⟩) 1 1]) (by simp [results, Try.results13, go_sem, r0, r1, r2, r3, r4, r5]) rfl ⟨[_, _, _, _, _, _], rfl, (hg _ _ _ _ _ _).1, (hg _ _ _ _ _ _).2⟩

theorem not_part (x : Filter) (cs : List Value) (w : World) (h : kFilter.K w Any x cs) (ih : TurnAt (kidsOf x)) : Calls Try.prog 13 #[.agg cs.toArray] w (Gives (turnF true x) w) := by
  by_cases hs : 200 < sizeF x
  · exact not_many x cs w h hs
  by_cases k2 : x.Kind = 2
  · by_cases hl : 0 < x.Kids.length
    · exact not_2 x cs w h hs k2 hl ih
    · exact not_bare x cs w h hs (.inl ⟨k2, by omega⟩)
  · by_cases k3 : x.Kind = 3
    · exact not_3 x cs w h hs k3 ih
    · by_cases k4 : x.Kind = 4
      · exact not_4 x cs w h hs k4 ih
      · exact not_bare x cs w h hs (.inr ⟨k2, k3, k4⟩)
theorem turn_any : ∀ n x, ht x ≤ n → ∀ (b : Bool) cs w, kFilter.K w Any x cs → Calls Try.prog (if b then 13 else 28) #[.agg cs.toArray] w (Gives (turnF b x) w) := by
  intro n
  induction n with
  | zero => intro x hx; rw [ht_eq] at hx; omega
  | succ n ih =>
    intro x hx b cs w h
    have hih : TurnAt (kidsOf x) := fun k hk b cs W hK => ih k (by have := ht_kid hk; omega) b cs W hK
    cases b with
    | true => exact not_part x cs w h hih
    | false => exact made_part x cs w h hih
theorem not_any (x : Filter) (cs : List Value) (w : World) (h : kFilter.K w Any x cs) : Calls Try.prog 13 #[.agg cs.toArray] w (Gives (turnF true x) w) := turn_any _ x (Nat.le_refl _) true cs w h
end Go.Proofs.Ytddjbhphhhdnfaa.K
