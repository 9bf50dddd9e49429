/- The contract of gristmillref05.Same: no condition. -/
import Derived.Test.YtddjbhphhhdnfaaG15
namespace Go.Proofs.Ytddjbhphhhdnfaa.K
open Go.RowKit
set_option linter.unusedVariables false
set_option linter.unusedSimpArgs false

def RefSameAt (ks : List Filter) : Prop := ∀ k ∈ ks, ∀ (y : Filter) cs ds W, kFilter.K W Any k cs → kFilter.K W Any y ds → Calls Try.prog 17 #[.agg cs.toArray, .agg ds.toArray] W fun e W' => e = .returned (.bool (sameF k y)) ∧ Below W.heap.size W W'

set_option maxHeartbeats 4000000 in
theorem refSame_ne (x y : Filter) (cs ds : List Value) (w : World) (h : kFilter.K w Any x cs) (h2 : kFilter.K w Any y ds) (hk : ¬ x.Kind = y.Kind) :
    Calls Try.prog 17 #[.agg cs.toArray, .agg ds.toArray] w fun e w' => e = .returned (.bool (sameF x y)) ∧ Below w.heap.size w w' := by
  obtain ⟨A0, c0, A1, c1, rfl, q0, q1, q2, q3, q4, q5⟩ := kFilter_open h
  obtain ⟨C0, e0, C1, e1, rfl, s0, s1, s2, s3, s4, s5⟩ := kFilter_open h2
  have HR := Aside.mk (same_kind hk)
  have hkb : (x.Kind == y.Kind) = false := by simpa using hk
  have HB := Aside.mk (fun o o' => below_alloc (below_alloc (Below.refl _ w) o) o')
  clear h h2 q0 q1 q2 q3 q4 q5 s0 s1 s2 s3 s4 s5
  go_enter Try.func17, Try.ntmps17
  go_wp2
  go_ret
  exact ⟨ret_bool HR.out.symm, HB.out _ _⟩

set_option maxHeartbeats 4000000 in
theorem refSame_8 (x y : Filter) (cs ds : List Value) (w : World) (h : kFilter.K w Any x cs) (h2 : kFilter.K w Any y ds) (hk : x.Kind = y.Kind) (k : x.Kind = 8) :
    Calls Try.prog 17 #[.agg cs.toArray, .agg ds.toArray] w fun e w' => e = .returned (.bool (sameF x y)) ∧ Below w.heap.size w w' := by
  obtain ⟨A0, c0, A1, c1, rfl, q0, q1, q2, q3, q4, q5⟩ := kFilter_open h
  obtain ⟨C0, e0, C1, e1, rfl, s0, s1, s2, s3, s4, s5⟩ := kFilter_open h2
  have HR := Aside.mk (same_8 hk k)
  have HB := Aside.mk (fun o o' => below_alloc (below_alloc (Below.refl _ w) o) o')
  rw [← hk, k]
  clear h h2 q0 q1 q2 q3 q4 q5 s0 s1 s2 s3 s4 s5 hk k
  generalize sameF x y = r at *
  by_cases e0 : x.Dim = y.Dim
  · have e0b : (x.Dim == y.Dim) = true := by simpa using e0
    by_cases e1 : x.Lo = y.Lo
    · have e1b : (x.Lo == y.Lo) = true := by simpa using e1
      have HR2 := Aside.mk (show r = (x.Hi == y.Hi) by rw [HR.out, e0b, e1b]; simp)
      clear HR
      go_enter Try.func17, Try.ntmps17
      go_wp2
      go_ret
      exact ⟨ret_bool HR2.out.symm, HB.out _ _⟩
    · have e1b : (x.Lo == y.Lo) = false := by simpa using e1
      have HR2 := Aside.mk (show r = false by rw [HR.out, e1b]; simp)
      clear HR
      go_enter Try.func17, Try.ntmps17
      go_wp2
      go_ret
      exact ⟨ret_bool HR2.out.symm, HB.out _ _⟩
  · have e0b : (x.Dim == y.Dim) = false := by simpa using e0
    have HR2 := Aside.mk (show r = false by rw [HR.out, e0b]; simp)
    clear HR
    go_enter Try.func17, Try.ntmps17
    go_wp2
    go_ret
    exact ⟨ret_bool HR2.out.symm, HB.out _ _⟩

set_option maxHeartbeats 8000000 in
set_option maxRecDepth 100000 in
theorem refSame_567 (x y : Filter) (cs ds : List Value) (w : World) (h : kFilter.K w Any x cs) (h2 : kFilter.K w Any y ds) (hk : x.Kind = y.Kind) (k : x.Kind = 5 ∨ x.Kind = 6 ∨ x.Kind = 7) :
    Calls Try.prog 17 #[.agg cs.toArray, .agg ds.toArray] w fun e w' => e = .returned (.bool (sameF x y)) ∧ Below w.heap.size w w' := by
  obtain ⟨A0, c0, A1, c1, rfl, q0, q1, q2, q3, q4, q5⟩ := kFilter_open h
  obtain ⟨C0, e0, C1, e1, rfl, s0, s1, s2, s3, s4, s5⟩ := kFilter_open h2
  have HR := Aside.mk (same_567 hk k)
  have HB := Aside.mk (fun o o' => below_alloc (below_alloc (Below.refl _ w) o) o')
  have HTX := Aside.mk q2.2.2
  have HTY := Aside.mk s2.2.2
  have hn := q2.2.2.2.1
  have hm := s2.2.2.2.1
  rw [← hk]
  clear h h2 q0 q1 q2 q3 q4 q5 s0 s1 s2 s3 s4 s5 hk
  generalize sameF x y = r at *
  rcases k with k | k | k
  all_goals
    rw [k]
    clear k
    by_cases e0 : x.Dim = y.Dim
    · have e0b : (x.Dim == y.Dim) = true := by simpa using e0
      by_cases e1 : x.Texts.length = y.Texts.length
      · have e1b : ((x.Texts.length : Int) == (y.Texts.length : Int)) = true := by simp; omega
        have e1i : (x.Texts.length : Int) = (y.Texts.length : Int) := by omega
        have HR2 := Aside.mk (show r = zipAll isText x.Texts y.Texts by rw [HR.out, e0b]; simp)
        have HLEN := Aside.mk e1
        clear HR
        rw [← e1, ← e0]
        clear e0 e0b e1 e1b e1i
        go_enter Try.func17, Try.ntmps17
        go_wp2
        generalize hW : (w.alloc _).alloc _ = W
        obtain ⟨b1, b2, hbel⟩ := two_known hW
        have HP1 := Aside.mk b1
        have HP2 := Aside.mk b2
        have HBW := Aside.mk hbel
        clear hW b1 b2 hbel
        go_loopw [5] (fun i wr => ∃ n : Nat, n ≤ x.Texts.length ∧ i = .int .i64 n ∧ Aside (Below W.heap.size W wr) ∧ Aside (∀ j (hj : j < n) (hx : j < x.Texts.length) (hy : j < y.Texts.length), isText x.Texts[j] y.Texts[j] = true)) (fun i _ => x.Texts.length - (intOf i).toNat)
        case atStart => exact ⟨0, Nat.zero_le _, rfl, ⟨Below.refl _ _⟩, ⟨fun j hj => absurd hj (Nat.not_lt_zero _)⟩⟩
        case round =>
          obtain ⟨n, hnn, rfl, HBR, HALL⟩ := hrel
          obtain ⟨i0, i1, i2, i3, i4, i5⟩ := blk6 HP1.out HBR.out
          obtain ⟨j0, j1, j2, j3, j4, j5⟩ := blk6 HP2.out HBR.out
          have HB0 := Aside.mk (below_self HBW.out HBR.out)
          by_cases hlt : n < x.Texts.length
          · have hni : (n : Int) < (x.Texts.length : Int) := by omega
            have hly : n < y.Texts.length := by rw [← HLEN.out]; exact hlt
            obtain ⟨ad, hA, m0, hs⟩ := str_at HTX.out HB0.out hlt
            subst hA
            obtain ⟨bd, hA2, n0, ht⟩ := str_at HTY.out HB0.out hly
            subst hA2
            have HLY := Aside.mk hly
            clear hs ht
            by_cases he : isText x.Texts[n] y.Texts[n] = true
            · have HE := Aside.mk he
              have he2 : (x.Texts[n].toList == y.Texts[n].toList) = true := he
              clear he
              go_wp2_with fail
              go_quiet (fail)
              go_wp2
              go_roundw
              case rel =>
                refine ⟨n + 1, by omega, by go_num, ⟨below_drewN HBR.out _⟩, ⟨fun j hj hx hy => ?_⟩⟩
                rcases Nat.lt_or_ge j n with h1 | h1
                · exact HALL.out j h1 hx hy
                · obtain rfl : j = n := by omega
                  exact HE.out
              case measure => simp [intOf]; omega
            · have he0 : isText x.Texts[n] y.Texts[n] = false := by simpa using he
              have HE := Aside.mk he0
              have he2 : (x.Texts[n].toList == y.Texts[n].toList) = false := he0
              clear he he0
              go_wp2_with fail
              go_quiet (fail)
              go_wp2
              go_ret
              exact ⟨ret_bool (HR2.out.trans (zipAll_no hlt HLY.out HE.out)).symm, below_drewN HB0.out _⟩
          · have hni : ¬ (n : Int) < (x.Texts.length : Int) := by omega
            go_wp2
            go_ret
            exact ⟨ret_bool (HR2.out.trans (zipAll_yes HLEN.out (fun j hx hy => HALL.out j (by omega) hx hy))).symm, HB0.out⟩
      · have e1b : ((x.Texts.length : Int) == (y.Texts.length : Int)) = false := by simp; omega
        have e1i : ¬ (x.Texts.length : Int) = (y.Texts.length : Int) := by omega
        have HR2 := Aside.mk (show r = false by rw [HR.out, zipAll_len e1]; simp)
        clear HR e1
        go_enter Try.func17, Try.ntmps17
        go_wp2
        go_ret
        exact ⟨ret_bool HR2.out.symm, HB.out _ _⟩
    · have e0b : (x.Dim == y.Dim) = false := by simpa using e0
      have HR2 := Aside.mk (show r = false by rw [HR.out, e0b]; simp)
      clear HR
      go_enter Try.func17, Try.ntmps17
      go_wp2
      go_ret
      exact ⟨ret_bool HR2.out.symm, HB.out _ _⟩
end Go.Proofs.Ytddjbhphhhdnfaa.K
