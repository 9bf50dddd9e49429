/- gristmillref01.Parts, depth and Depth by contracts. No condition. -/
import Derived.Test.YtjpeaeklhcnpnaaE5
namespace Go.Proofs.Ytjpeaeklhcnpnaa.K
open Go.RowKit Go.Lib
set_option linter.unusedVariables false
set_option linter.unusedSimpArgs false
/-- A filter's depth, looked into so far. -/
def depthL : Nat → Filter → Nat
  | 0, _ => 1
  | n + 1, x => if n = 0 then 1 else (x.Kids.foldl (fun m y => max m (depthL n y)) 0) + 1
def maxL (n : Nat) (l : List Filter) : Nat := l.foldl (fun m y => max m (depthL n y)) 0
theorem depthL_le : ∀ n x, depthL n x ≤ n + 1
  | 0, x => by simp [depthL]
  | n + 1, x => by
    unfold depthL
    split
    · omega
    · have key : ∀ (l : List Filter) (m : Nat), m ≤ n + 1 → l.foldl (fun m y => max m (depthL n y)) m ≤ n + 1 := by
        intro l
        induction l with
        | nil => exact fun m hm => hm
        | cons y r ih => exact fun m hm => ih _ (by show max m (depthL n y) ≤ n + 1; have := depthL_le n y; omega)
      have := key x.Kids 0 (by omega)
      omega
theorem maxL_le (n : Nat) (l : List Filter) : maxL n l ≤ n + 1 := by
  have key : ∀ (l : List Filter) (m : Nat), m ≤ n + 1 → l.foldl (fun m y => max m (depthL n y)) m ≤ n + 1 := by
    intro l
    induction l with
    | nil => exact fun m hm => hm
    | cons y r ih => exact fun m hm => ih _ (by show max m (depthL n y) ≤ n + 1; have := depthL_le n y; omega)
  exact key l 0 (by omega)
theorem maxL_step (n : Nat) (l : List Filter) (i : Nat) (hi : i < l.length) : maxL n (l.take (i + 1)) = max (maxL n (l.take i)) (depthL n l[i]) := by
  unfold maxL
  rw [List.take_add_one, List.getElem?_eq_getElem hi, List.foldl_append]
  rfl
/-- A boxed filter, and what lies beside it. -/
structure FBox (W w : World) (gb : Nat) (obj : Obj) : Prop where
  box : w.heap[gb]? = some obj
  below : Below W.heap.size W w
theorem FBox.start (W : World) (obj : Obj) : FBox W (W.alloc obj) W.heap.size obj := ⟨blk_new W obj, below_alloc (Below.refl _ _) _⟩
theorem FBox.call {W w w' : World} {gb : Nat} {obj : Obj} (h : FBox W w gb obj) (hb : Below w.heap.size w w') : FBox W w' gb obj := ⟨(hb.block gb (blk_lt h.box)).trans h.box, below_self h.below hb⟩
def DepthAny (n : Nat) : Prop := ∀ (x : Filter) (W : World) (cs : List Value), kFilter.K W Any x cs → Calls Try.prog 34 #[.agg cs.toArray, .int .i64 n] W fun e w' => e = .returned (.int .i64 (depthL n x)) ∧ Below W.heap.size W w'
set_option maxHeartbeats 8000000 in
set_option maxRecDepth 100000 in
theorem depth_step (n : Nat) (hn : n + 1 ≤ 1000) (ih : 1 ≤ n → DepthAny n) : DepthAny (n + 1) := by
  intro x W cs hK
  obtain ⟨A2, c2, A5, c5, rfl, h1, h2, ⟨_, _, hC2⟩, h3, h4, ⟨_, _, hC5⟩⟩ := kFilter_open hK
  have HB := Aside.mk (FBox.start W (.cells (filterC x A2 A5 c2 c5) 40))
  have HC5 := Aside.mk hC5
  have HIH := Aside.mk ih
  have hkl : x.Kids.length ≤ 9223372036854775807 := hC5.2.1
  have hsub : IntKind.i64.wrap (((n + 1 : Nat) : Int) - 1) = n := by rw [IntKind.wrap_i64]; omega
  obtain ⟨q, hq⟩ : ∃ q, n + 1 = q := ⟨_, rfl⟩
  have HQ := Aside.mk hq
  have HML : ∀ l, Aside (maxL n l ≤ 1000) := fun l => ⟨by have := maxL_le n l; omega⟩
  rw [hq] at hsub ⊢
  clear h1 h2 h3 h4 hC2 hC5 ih hK hq hn
  unfold filterC at *
  go_enter Try.func34, Try.ntmps34
  go_wp2
  go_loopw [5, 6] (fun v5 v6 wr => ∃ i : Nat, i ≤ x.Kids.length ∧ (n = 0 → i = 0) ∧ v5 = .int .i64 ((maxL n (x.Kids.take i) : Nat) : Int) ∧ v6 = .int .i64 i ∧ Aside (FBox W wr W.heap.size (.cells (filterC x A2 A5 c2 c5) 40))) (fun _ v6 _ => x.Kids.length - (intOf v6).toNat)
  case atStart => exact ⟨0, Nat.zero_le _, fun _ => rfl, by simp [maxL], rfl, HB⟩
  case round =>
    obtain ⟨i, hi, hi0, rfl, rfl, HR⟩ := hrel
    have f5 : wr.cell? ⟨W.heap.size, 5, none⟩ = some (.slice A5 x.Kids.length c5) := (blk_cell HR.out.box 5).trans rfl
    by_cases hlt : i < x.Kids.length ∧ 1 ≤ n
    · obtain ⟨hlt, hn1⟩ := hlt
      have hq1 : (1 : Int) < (q : Int) := by have := HQ.out; omega
      obtain ⟨ad, B2, d2, B5, d5, rfl, _, _, l0, l1, l2, l3, l4, l5, hK⟩ := kFilter_at (Kd.C_below HC5.out HR.out.below) (Below.refl _ _) hlt
      have HCALL := Aside.mk (HIH.out hn1 _ wr _ hK)
      have hst := maxL_step n x.Kids i hlt
      have hd0 := depthL_le n x.Kids[i]
      have hm0 := maxL_le n (x.Kids.take i)
      have HST := Aside.mk hst
      have HI0 : Aside (n = 0 → i + 1 = 0) := ⟨fun h => by omega⟩
      clear hst hK hi0
      generalize hy : x.Kids[i] = y at *
      clear hy
      generalize depthL n y = d at *
      generalize hmm : maxL n (x.Kids.take i) = mm at *
      clear hmm
      by_cases hdm : mm < d
      · have HX : Aside (maxL n (x.Kids.take (i + 1)) = d) := ⟨by rw [HST.out]; omega⟩
        go_wp2_with (go_at_call 34; refine HCALL.out.mono ?_; rintro e w6 ⟨rfl, hb6⟩; have HR6 := Aside.mk (HR.out.call hb6); clear hb6)
        go_round
        case rel => exact ⟨i + 1, hlt, HI0.out, by rw [HX.out], rfl, HR6⟩
        case measure => simp only [intOf]; omega
      · have HX : Aside (maxL n (x.Kids.take (i + 1)) = mm) := ⟨by rw [HST.out]; omega⟩
        go_wp2_with (go_at_call 34; refine HCALL.out.mono ?_; rintro e w6 ⟨rfl, hb6⟩; have HR6 := Aside.mk (HR.out.call hb6); clear hb6)
        go_round
        case rel => exact ⟨i + 1, hlt, HI0.out, by rw [HX.out], rfl, HR6⟩
        case measure => simp only [intOf]; omega
    · have hres : depthL q x = maxL n (x.Kids.take i) + 1 := by
        rw [← HQ.out]
        unfold depthL
        by_cases h0 : n = 0
        · rw [if_pos h0, hi0 h0]; simp [maxL]
        · have : i = x.Kids.length := by omega
          subst this
          rw [if_neg h0, List.take_length]; rfl
      have hml := (HML (x.Kids.take i)).out
      have hQ := HQ.out
      have HRES := Aside.mk hres
      have HBL := Aside.mk HR.out.below
      clear hres HIH HML
      generalize maxL n (x.Kids.take i) = mm at *
      by_cases hlt2 : i < x.Kids.length
      · have hnn : ¬ (1 : Int) < (q : Int) := by omega
        go_wp2
        go_ret
        exact ⟨by rw [HRES.out]; simp, HBL.out⟩
      · obtain rfl : i = x.Kids.length := by omega
        go_wp2
        go_ret
        exact ⟨by rw [HRES.out]; simp, HBL.out⟩
theorem depth_all : ∀ n, 1 ≤ n → n ≤ 1000 → DepthAny n
  | 0, h, _ => by omega
  | n + 1, _, hn => depth_step n hn fun h => depth_all n h (by omega)
/-- What Depth tells. -/
def depthV (x : Filter) : Nat := depthL 21 x
set_option maxHeartbeats 4000000 in
set_option maxRecDepth 100000 in
theorem depth_any {W : World} {x : Filter} {cs : List Value} (hK : kFilter.K W Any x cs) : Calls Try.prog 11 #[.agg cs.toArray] W fun e w' => e = .returned (.int .i64 (depthV x)) ∧ Below W.heap.size W w' := by
  obtain ⟨A2, c2, A5, c5, rfl, h1, h2, ⟨_, _, hC2⟩, h3, h4, ⟨_, _, hC5⟩⟩ := kFilter_open hK
  have HB := Aside.mk (FBox.start W (.cells (filterC x A2 A5 c2 c5) 40))
  have HC := Aside.mk (depth_all 21 (by omega) (by omega) x (W.alloc (.cells (filterC x A2 A5 c2 c5) 40)) _ (Kd.below hK HB.out.below))
  clear h1 h2 h3 h4 hC2 hC5 hK
  unfold filterC depthV at *
  go_enter Try.func11, Try.ntmps11
  go_wp2_with (go_at_call 34; refine HC.out.mono ?_; rintro e w6 ⟨rfl, hb6⟩; have HR6 := Aside.mk (HB.out.call hb6); clear hb6)
  go_ret
  exact ⟨rfl, HR6.out.below⟩
def PartsAny (m : Nat) : Prop := ∀ (x : Filter), SizeOf.sizeOf x ≤ m → ∀ (W : World) (cs : List Value) (left : Nat), left ≤ 1000 → kFilter.K W Any x cs → Calls Try.prog 10 #[.agg cs.toArray, .int .i64 left] W fun e w' => (∃ r : Int, e = .returned (.int .i64 r) ∧ -1 ≤ r ∧ r ≤ left) ∧ Below W.heap.size W w'
set_option maxHeartbeats 8000000 in
set_option maxRecDepth 100000 in
theorem parts_step (m : Nat) (ih : ∀ j, j < m → PartsAny j) : PartsAny m := by
  intro x hx W cs left hl hK
  obtain ⟨A2, c2, A5, c5, rfl, h1, h2, ⟨_, _, hC2⟩, h3, h4, ⟨_, _, hC5⟩⟩ := kFilter_open hK
  have HB := Aside.mk (FBox.start W (.cells (filterC x A2 A5 c2 c5) 40))
  have HC5 := Aside.mk hC5
  have HIH : Aside (∀ i (hi : i < x.Kids.length), PartsAny (SizeOf.sizeOf x.Kids[i])) := ⟨fun i hi => ih _ (Nat.lt_of_lt_of_le (kid_lt hi) hx)⟩
  have hkl : x.Kids.length ≤ 9223372036854775807 := hC5.2.1
  have hsub : IntKind.i64.wrap ((left : Int) - 1) = (left : Int) - 1 := by rw [IntKind.wrap_i64]; omega
  clear h1 h2 h3 h4 hC2 hC5 ih hK hx
  unfold filterC at *
  go_enter Try.func10, Try.ntmps10
  go_wp2
  go_loopw [1, 5] (fun v1 v5 wr => ∃ (i : Nat) (r : Int), i ≤ x.Kids.length ∧ -1 ≤ r ∧ r ≤ left ∧ v1 = .int .i64 r ∧ v5 = .int .i64 i ∧ Aside (FBox W wr W.heap.size (.cells (filterC x A2 A5 c2 c5) 40))) (fun _ v5 _ => x.Kids.length - (intOf v5).toNat)
  case atStart => exact ⟨0, (left : Int) - 1, Nat.zero_le _, by omega, by omega, by simp [hsub], rfl, HB⟩
  case round =>
    obtain ⟨i, r, hi, hr1, hr2, rfl, rfl, HR⟩ := hrel
    have f5 : wr.cell? ⟨W.heap.size, 5, none⟩ = some (.slice A5 x.Kids.length c5) := (blk_cell HR.out.box 5).trans rfl
    by_cases hlt : i < x.Kids.length ∧ 0 ≤ r
    · obtain ⟨hlt, hr0⟩ := hlt
      obtain ⟨ad, B2, d2, B5, d5, rfl, _, _, l0, l1, l2, l3, l4, l5, hK⟩ := kFilter_at (Kd.C_below HC5.out HR.out.below) (Below.refl _ _) hlt
      obtain ⟨q, rfl⟩ := Int.eq_ofNat_of_zero_le hr0
      have HCALL := Aside.mk (HIH.out i hlt _ (Nat.le_refl _) wr _ q (by omega) (Kd.any hK))
      clear hK
      generalize hy : x.Kids[i] = y at *
      clear hy
      go_wp2_with (go_at_call 10; refine HCALL.out.mono ?_; rintro e w6 ⟨⟨r6, rfl, hr61, hr62⟩, hb6⟩; have HR6 := Aside.mk (HR.out.call hb6); clear hb6)
      go_round
      case rel => exact ⟨i + 1, r6, hlt, hr61, by omega, rfl, rfl, HR6⟩
      case measure => simp only [intOf]; omega
    · have HBL := Aside.mk HR.out.below
      by_cases hlt2 : i < x.Kids.length
      · have hnn : ¬ (0 : Int) ≤ r := fun h => hlt ⟨hlt2, h⟩
        clear hlt
        go_wp2
        go_ret
        exact ⟨⟨r, rfl, hr1, hr2⟩, HBL.out⟩
      · obtain rfl : i = x.Kids.length := by omega
        clear hlt
        go_wp2
        go_ret
        exact ⟨⟨r, rfl, hr1, hr2⟩, HBL.out⟩
theorem parts_all (m : Nat) : PartsAny m := by
  induction m using Nat.strongRecOn with
  | ind m ih => exact parts_step m ih
end Go.Proofs.Ytjpeaeklhcnpnaa.K
