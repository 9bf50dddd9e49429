/- The contract of filter.made at a part, what turning its kids gives being known. No condition. -/
import Derived.Test.YtddjbhphhhdnfaaG4
namespace Go.Proofs.Ytddjbhphhhdnfaa.K
open Go.RowKit
set_option linter.unusedVariables false
set_option linter.unusedSimpArgs false

theorem kid_at {w : World} {F : Nat → Prop} {A : Option Addr} {n : Nat} {xs : List Filter} (h : kFilter.C w F A n xs) (hi : 0 < xs.length) : ∃ ad A0 c0 A1 c1, A = some ad ∧ kFilter.K w F xs[0] [.int .i64 xs[0].Kind, .int .i64 xs[0].Dim, .slice A0 xs[0].Texts.length c0, .int .i64 xs[0].Lo, .int .i64 xs[0].Hi, .slice A1 xs[0].Kids.length c1] ∧
    ∀ W, Below w.heap.size w W → W.cell? ad = some (.int .i64 xs[0].Kind) ∧ W.cell? ⟨ad.block, ad.off + 1, none⟩ = some (.int .i64 xs[0].Dim) ∧ W.cell? ⟨ad.block, ad.off + 2, none⟩ = some (.slice A0 xs[0].Texts.length c0) ∧ W.cell? ⟨ad.block, ad.off + 3, none⟩ = some (.int .i64 xs[0].Lo) ∧ W.cell? ⟨ad.block, ad.off + 4, none⟩ = some (.int .i64 xs[0].Hi) ∧ W.cell? ⟨ad.block, ad.off + 5, none⟩ = some (.slice A1 xs[0].Kids.length c1) := by
  obtain ⟨ad, A0, c0, A1, c1, hA, hF, hl, m0, m1, m2, m3, m4, m5, hK⟩ := kFilter_at h (Below.refl _ w) hi
  simp only [Nat.zero_mul, Addr.add, if_true] at m0 m1 m2 m3 m4 m5
  exact ⟨ad, A0, c0, A1, c1, hA, hK, fun W hb => ⟨(hb.cell hl).trans m0, (hb.cell (p := ⟨ad.block, _, none⟩) hl).trans m1, (hb.cell (p := ⟨ad.block, _, none⟩) hl).trans m2, (hb.cell (p := ⟨ad.block, _, none⟩) hl).trans m3, (hb.cell (p := ⟨ad.block, _, none⟩) hl).trans m4, (hb.cell (p := ⟨ad.block, _, none⟩) hl).trans m5⟩⟩
theorem take_one {α : Type} {xs : List α} (h : 0 < xs.length) : xs.take 1 = [xs[0]] := by
  cases xs with
  | nil => simp at h
  | cons y ys => simp
theorem enters13 : ∀ args w, (callFunc 13 args).run Try.prog w = .ok (.enter 13 args) w := enters_of Try.func13 (by kernel_rfl) rfl
theorem enters28 : ∀ args w, (callFunc 28 args).run Try.prog w = .ok (.enter 28 args) w := enters_of Try.func28 (by kernel_rfl) rfl

set_option maxHeartbeats 4000000 in
theorem made_2 (x : Filter) (cs : List Value) (w : World) (h : kFilter.K w Any x cs) (k : x.Kind = 2) (hl : 0 < x.Kids.length) (ih : TurnAt (kidsOf x)) :
    Calls Try.prog 28 #[.agg cs.toArray] w (Gives (turnF false x) w) := by
  obtain ⟨A0, c0, A1, c1, rfl, q0, q1, q2, q3, q4, q5⟩ := kFilter_open h
  have hk0 : kidsOf x = [x.Kids[0]] := by
    rw [kidsOf, if_pos k]
    exact take_one hl
  have HR := Aside.mk (show turnF false x = turnF true x.Kids[0] by rw [turnF_eq, if_neg (by simp), if_pos k, hk0]; rfl)
  rw [HR.out]
  obtain ⟨ad, B0, d0, B1, d1, hA, hK, hm⟩ := kid_at q5.2.2 hl
  have HI := Aside.mk (fun W (hb : Below w.heap.size w W) => ih x.Kids[0] (by rw [hk0]; simp) true _ W (Kd.below hK hb))
  simp only [if_true] at HI
  subst hA
  have m0 := fun o o' => (hm ((w.alloc o).alloc o') (below_alloc (below_alloc (Below.refl _ w) _) _)).1
  have m1 := fun o o' => (hm ((w.alloc o).alloc o') (below_alloc (below_alloc (Below.refl _ w) _) _)).2.1
  have m2 := fun o o' => (hm ((w.alloc o).alloc o') (below_alloc (below_alloc (Below.refl _ w) _) _)).2.2.1
  have m3 := fun o o' => (hm ((w.alloc o).alloc o') (below_alloc (below_alloc (Below.refl _ w) _) _)).2.2.2.1
  have m4 := fun o o' => (hm ((w.alloc o).alloc o') (below_alloc (below_alloc (Below.refl _ w) _) _)).2.2.2.2.1
  have m5 := fun o o' => (hm ((w.alloc o).alloc o') (below_alloc (below_alloc (Below.refl _ w) _) _)).2.2.2.2.2
  have hli : (0 : Int) < (x.Kids.length : Int) := by omega
  have HK0 := Aside.mk hk0
  rw [k]
  generalize turnF true x.Kids[0] = y at HI ⊢
  clear HR
  clear h q0 q1 q2 q3 q4 q5 hk0 hK hm ih k
  go_enter Try.func28, Try.ntmps28
  go_wp2_with fail
  clear m0 m1 m2 m3 m4 m5
  generalize hW : (w.alloc _).alloc _ = W
  obtain ⟨b1, b2, hbel⟩ := two_known hW
  have hlt := blk_lt b2
  refine (HI.out W hbel).mono ?_
  rintro e w2 ⟨cs2, rfl, hK2, hb⟩
  have HB := Aside.mk (below_self hbel hb)
  have b2 := blk_below b2 hb
  have hlt2 := blk_lt b2
  have r0 := (blk_cell b2 0).trans rfl
  have r1 := (blk_cell b2 1).trans rfl
  have r2 := (blk_cell b2 2).trans rfl
  have r3 := (blk_cell b2 3).trans rfl
  have r4 := (blk_cell b2 4).trans rfl
  have r5 := (blk_cell b2 5).trans rfl
  have fy := fun i => blk_frozen b2 i
  have HK2 := Aside.mk hK2
  obtain ⟨E0, f0, E1, f1, rfl, p0, p1, p2, p3, p4, p5⟩ := kFilter_open hK2
  clear p0 p1 p2 p3 p4 p5 hK2 hb hbel hW b1 b2
  go_wp2
  have hg := fun v0 v1 v2 v3 v4 v5 => gives6 (v0 := v0) (v1 := v1) (v2 := v2) (v3 := v3) (v4 := v4) (v5 := v5) (Nat.le_succ _) hlt HB.out HK2.out
  exact bodyPost_ret (v := .agg #[.int .i64 y.Kind, .int .i64 y.Dim, .slice E0 y.Texts.length f0, .int .i64 y.Lo, .int .i64 y.Hi, .slice E1 y.Kids.length f1]) (by simp [results, Try.results28, go_sem, r0, r1, r2, r3, r4, r5]) rfl ⟨[_, _, _, _, _, _], rfl, (hg _ _ _ _ _ _).1, (hg _ _ _ _ _ _).2⟩

/-- What a world keeps of the part's copy and of the result's place. -/
def Keeps (w : World) (cs : Array Value) (z : Array Value) (W : World) : Prop := Below w.heap.size w W ∧ W.heap[w.heap.size]? = some (.cells cs 25 (0, 0)) ∧ W.heap[w.heap.size + 1]? = some (.cells z 25 (0, 0))
theorem Keeps.next {w W W' : World} {cs z : Array Value} (h : Keeps w cs z W) (hb : Below W.heap.size W W') : Keeps w cs z W' := ⟨below_self h.1 hb, blk_below h.2.1 hb, blk_below h.2.2 hb⟩

set_option maxHeartbeats 8000000 in
theorem made_34 (x : Filter) (cs : List Value) (w : World) (h : kFilter.K w Any x cs) (k : x.Kind = 3 ∨ x.Kind = 4) (ih : TurnAt (kidsOf x)) :
    Calls Try.prog 28 #[.agg cs.toArray] w (Gives (turnF false x) w) := by
  have hx := h
  obtain ⟨A0, c0, A1, c1, rfl, q0, q1, q2, q3, q4, q5⟩ := kFilter_open h
  have HR := Aside.mk (show turnF false x = ⟨x.Kind, 0, [], 0, 0, (kidsOf x).map (turnF false)⟩ by rw [turnF_eq, if_neg (by simp), if_neg (by omega), if_pos k]; rfl)
  rw [HR.out]
  have HW := Aside.mk q0
  have HE := fun (W : World) (hb : Aside (Keeps w #[.int .i64 x.Kind, .int .i64 x.Dim, .slice A0 x.Texts.length c0, .int .i64 x.Lo, .int .i64 x.Hi, .slice A1 x.Kids.length c1] #[.int .i64 0, .int .i64 0, .slice none 0 0, .int .i64 0, .int .i64 0, .slice none 0 0] W)) => Aside.mk (each_to 28 enters28 (turnF false) x _ W (Kd.below hx hb.out.1) (fun y hy => ih y hy false))
  generalize (kidsOf x).map (turnF false) = zs at HE ⊢
  clear h q0 q1 q2 q3 q4 q5 ih hx HR
  rcases k with k | k
  all_goals
    rw [k] at HE HW ⊢
    clear k
    go_enter Try.func28, Try.ntmps28
    go_wp2_with fail
    generalize hW : (w.alloc _).alloc _ = W
    obtain ⟨b1, b2, hbel⟩ := two_known hW
    have HA0 := Aside.mk (show Keeps w _ _ W.drew from ⟨hbel.drew, b1, b2⟩)
    have i0 := (blk_cell b1 0).trans rfl
    have i1 := (blk_cell b1 1).trans rfl
    have i2 := (blk_cell b1 2).trans rfl
    have i3 := (blk_cell b1 3).trans rfl
    have i4 := (blk_cell b1 4).trans rfl
    have i5 := (blk_cell b1 5).trans rfl
    have hlt : w.heap.size + 1 < W.drew.heap.size := blk_lt b2
    clear hW hbel b1 b2
    go_region_with (first | (go_at_call 30; refine (HE _ (by assumption)).out.mono ?_; rintro e w2 ⟨ys, A, c, rfl, hys, hc, hlen, hC, hb⟩; have HA2 := Aside.mk (HA0.out.next hb); have HY := Aside.mk (And.intro hys (And.intro hc (And.intro hlen hC))); have j0 := (blk_cell HA2.out.2.1 0).trans rfl; clear hys hc hlen hC hb) | (go_at_call 29; refine (with_any _ _ _ _ _).mono ?_; rintro e w3 ⟨rfl, hb⟩; have HA3 := Aside.mk (HA2.out.next hb); have HB3 := Aside.mk hb;  have r0 := (blk_cell HA3.out.2.2 0).trans rfl; have r1 := (blk_cell HA3.out.2.2 1).trans rfl; have r2 := (blk_cell HA3.out.2.2 2).trans rfl; have r3 := (blk_cell HA3.out.2.2 3).trans rfl; have r4 := (blk_cell HA3.out.2.2 4).trans rfl; have r5 := (blk_cell HA3.out.2.2 5).trans rfl; have fy := fun i => blk_frozen HA3.out.2.2 i; clear hb))
    all_goals
      go_wp2
      obtain ⟨rfl, hc, hlen, hC⟩ := HY.out
      have hg := fun v0 v1 v2 v3 v4 v5 => gives6 (v0 := v0) (v1 := v1) (v2 := v2) (v3 := v3) (v4 := v4) (v5 := v5) (Nat.le_succ _) hlt HA3.out.1 (kidsFilter _ HW.out hc hlen (Kd.C_below hC HB3.out))
      exact bodyPost_ret (v := .agg #[.int .i64 _, .int .i64 0, .slice none 0 0, .int .i64 0, .int .i64 0, .slice A ys.length c]) (by simp [results, Try.results28, go_sem, r0, r1, r2, r3, r4, r5]) rfl ⟨[_, _, _, _, _, _], rfl, (hg _ _ _ _ _ _).1, (hg _ _ _ _ _ _).2⟩

set_option maxHeartbeats 8000000 in
theorem made_bare (x : Filter) (cs : List Value) (w : World) (h : kFilter.K w Any x cs) (k : (x.Kind = 2 ∧ x.Kids.length = 0) ∨ (¬ x.Kind = 2 ∧ ¬ x.Kind = 3 ∧ ¬ x.Kind = 4)) :
    Calls Try.prog 28 #[.agg cs.toArray] w (Gives (turnF false x) w) := by
  have hx := h
  obtain ⟨A0, c0, A1, c1, rfl, q0, q1, q2, q3, q4, q5⟩ := kFilter_open h
  have HR := Aside.mk (show turnF false x = bareF x by
    rw [turnF_eq, if_neg (by simp)]
    rcases k with ⟨k, hl⟩ | ⟨k2, k3, k4⟩
    · rw [if_pos k, kidsOf, if_pos k, List.eq_nil_of_length_eq_zero hl]; rfl
    · rw [if_neg k2, if_neg (by omega)]; rfl)
  rw [HR.out]
  have HE := Aside.mk (fun (W : World) (hb : Below w.heap.size w W) => bare_any x _ W (Kd.below hx hb))
  generalize bareF x = y at HE ⊢
  clear h q0 q1 q2 q3 q4 q5 hx HR
  rcases k with ⟨k, hl⟩ | ⟨k2, k3, k4⟩
  · rw [hl, k] at HE ⊢
    clear k hl
    go_enter Try.func28, Try.ntmps28
    go_wp2_with fail
    generalize hW : (w.alloc _).alloc _ = W
    obtain ⟨b1, b2, hbel⟩ := two_known hW
    have hlt := blk_lt b2
    refine (HE.out W hbel).mono ?_
    rintro e w2 ⟨cs2, rfl, hK2, hb⟩
    have HB := Aside.mk (below_self hbel hb)
    have b2 := blk_below b2 hb
    have hlt2 := blk_lt b2
    have r0 := (blk_cell b2 0).trans rfl
    have r1 := (blk_cell b2 1).trans rfl
    have r2 := (blk_cell b2 2).trans rfl
    have r3 := (blk_cell b2 3).trans rfl
    have r4 := (blk_cell b2 4).trans rfl
    have r5 := (blk_cell b2 5).trans rfl
    have fy := fun i => blk_frozen b2 i
    have HK2 := Aside.mk hK2
    obtain ⟨E0, f0, E1, f1, rfl, p0, p1, p2, p3, p4, p5⟩ := kFilter_open hK2
    clear p0 p1 p2 p3 p4 p5 hK2 hb hbel hW b1 b2
    go_wp2
    have hg := fun v0 v1 v2 v3 v4 v5 => gives6 (v0 := v0) (v1 := v1) (v2 := v2) (v3 := v3) (v4 := v4) (v5 := v5) (Nat.le_succ _) hlt HB.out HK2.out
    exact bodyPost_ret (v := .agg #[.int .i64 y.Kind, .int .i64 y.Dim, .slice E0 y.Texts.length f0, .int .i64 y.Lo, .int .i64 y.Hi, .slice E1 y.Kids.length f1]) (by simp [results, Try.results28, go_sem, r0, r1, r2, r3, r4, r5]) rfl ⟨[_, _, _, _, _, _], rfl, (hg _ _ _ _ _ _).1, (hg _ _ _ _ _ _).2⟩
  · have k2b : (x.Kind == 2) = false := by simpa using k2
    have k3b : (x.Kind == 3) = false := by simpa using k3
    have k4b : (x.Kind == 4) = false := by simpa using k4
    go_enter Try.func28, Try.ntmps28
    go_wp2_with fail
    generalize hW : (w.alloc _).alloc _ = W
    obtain ⟨b1, b2, hbel⟩ := two_known hW
    have hlt := blk_lt b2
    refine (HE.out W hbel).mono ?_
    rintro e w2 ⟨cs2, rfl, hK2, hb⟩
    have HB := Aside.mk (below_self hbel hb)
    have b2 := blk_below b2 hb
    have hlt2 := blk_lt b2
    have r0 := (blk_cell b2 0).trans rfl
    have r1 := (blk_cell b2 1).trans rfl
    have r2 := (blk_cell b2 2).trans rfl
    have r3 := (blk_cell b2 3).trans rfl
    have r4 := (blk_cell b2 4).trans rfl
    have r5 := (blk_cell b2 5).trans rfl
    have fy := fun i => blk_frozen b2 i
    have HK2 := Aside.mk hK2
    obtain ⟨E0, f0, E1, f1, rfl, p0, p1, p2, p3, p4, p5⟩ := kFilter_open hK2
    clear p0 p1 p2 p3 p4 p5 hK2 hb hbel hW b1 b2
    go_wp2
    have hg := fun v0 v1 v2 v3 v4 v5 => gives6 (v0 := v0) (v1 := v1) (v2 := v2) (v3 := v3) (v4 := v4) (v5 := v5) (Nat.le_succ _) hlt HB.out HK2.out
    exact bodyPost_ret (v := .agg #[.int .i64 y.Kind, .int .i64 y.Dim, .slice E0 y.Texts.length f0, .int .i64 y.Lo, .int .i64 y.Hi, .slice E1 y.Kids.length f1]) (by simp [results, Try.results28, go_sem, r0, r1, r2, r3, r4, r5]) rfl ⟨[_, _, _, _, _, _], rfl, (hg _ _ _ _ _ _).1, (hg _ _ _ _ _ _).2⟩
theorem made_part (x : Filter) (cs : List Value) (w : World) (h : kFilter.K w Any x cs) (ih : TurnAt (kidsOf x)) : Calls Try.prog 28 #[.agg cs.toArray] w (Gives (turnF false x) w) := by
  by_cases k2 : x.Kind = 2
  · by_cases hl : 0 < x.Kids.length
    · exact made_2 x cs w h k2 hl ih
    · exact made_bare x cs w h (.inl ⟨k2, by omega⟩)
  · by_cases k34 : x.Kind = 3 ∨ x.Kind = 4
    · exact made_34 x cs w h k34 ih
    · exact made_bare x cs w h (.inr ⟨k2, by omega, by omega⟩)
end Go.Proofs.Ytddjbhphhhdnfaa.K
