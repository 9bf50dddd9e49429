/- The contract of slices.Equal over texts: no condition. -/
import Derived.Test.YtddjbhphhhdnfaaF8
namespace Go.Proofs.Ytddjbhphhhdnfaa.K
open Go.RowKit
set_option linter.unusedVariables false
set_option linter.unusedSimpArgs false

/-- Two lists of one length, alike place by place. -/
def zipAll {α : Type} (p : α → α → Bool) : List α → List α → Bool
  | [], [] => true
  | a :: x, b :: y => p a b && zipAll p x y
  | _, _ => false
theorem zipAll_len {α : Type} {p : α → α → Bool} : ∀ {x y : List α}, x.length ≠ y.length → zipAll p x y = false
  | [], [], h => absurd rfl h
  | [], _ :: _, _ => rfl
  | _ :: _, [], _ => rfl
  | a :: x, b :: y, h => by simp only [zipAll]; rw [zipAll_len (x := x) (y := y) (by simpa using h), Bool.and_false]
theorem zipAll_yes {α : Type} {p : α → α → Bool} : ∀ {x y : List α}, x.length = y.length → (∀ j (hx : j < x.length) (hy : j < y.length), p x[j] y[j] = true) → zipAll p x y = true
  | [], [], _, _ => rfl
  | [], _ :: _, h, _ => by simp at h
  | _ :: _, [], h, _ => by simp at h
  | a :: x, b :: y, h, hp => by
    have h0 : p a b = true := hp 0 (by simp) (by simp)
    simp only [zipAll]
    rw [h0, zipAll_yes (x := x) (y := y) (by simpa using h) (fun j hx hy => hp (j + 1) (by simpa using hx) (by simpa using hy))]
    rfl
theorem zipAll_no {α : Type} {p : α → α → Bool} : ∀ {x y : List α} {j : Nat} (hx : j < x.length) (hy : j < y.length), p x[j] y[j] = false → zipAll p x y = false
  | [], _, _, hx, _, _ => by simp at hx
  | _ :: _, [], _, _, hy, _ => by simp at hy
  | a :: x, b :: y, 0, _, _, h => by
    have h0 : p a b = false := h
    simp only [zipAll, h0, Bool.false_and]
  | a :: x, b :: y, j + 1, hx, hy, h => by
    simp only [zipAll]
    rw [zipAll_no (x := x) (y := y) (j := j) (by simpa using hx) (by simpa using hy) (by simpa using h), Bool.and_false]

set_option maxHeartbeats 2000000 in
theorem equal_any (xs ys : List ByteArray) (A B : Option Addr) (c d : Nat) (w : World) (h : Kd.string.C w Any A xs.length xs) (h2 : Kd.string.C w Any B ys.length ys) :
    Calls Try.prog 46 #[.slice A xs.length c, .slice B ys.length d] w fun e w' => e = .returned (.bool (zipAll isText xs ys)) ∧ Below w.heap.size w w' := by
  have hn := h.2.1
  have hm := h2.2.1
  have HC := Aside.mk h
  have HD := Aside.mk h2
  clear h h2
  by_cases hl : xs.length = ys.length
  · have HL := Aside.mk hl
    rw [← hl]
    clear hl hm
    go_enter Try.func46, Try.ntmps46
    go_wp2
    go_loopw [5, 13] (fun z i wr => ∃ k : Nat, k ≤ xs.length ∧ i = .int .i64 k ∧ Aside (Below w.heap.size w wr) ∧ Aside (∀ j (hj : j < k) (hx : j < xs.length) (hy : j < ys.length), isText xs[j] ys[j] = true)) (fun z i _ => xs.length - (intOf i).toNat)
    case atStart => exact ⟨0, Nat.zero_le _, rfl, ⟨Below.refl _ _⟩, ⟨fun j hj => absurd hj (Nat.not_lt_zero _)⟩⟩
    case round =>
      obtain ⟨k, hk, rfl, HB, HALL⟩ := hrel
      by_cases hlt : k < xs.length
      · have hni : (k : Int) < (xs.length : Int) := by omega
        have hly : k < ys.length := by rw [← HL.out]; exact hlt
        obtain ⟨ad, hA, m0, hs⟩ := str_at HC.out HB.out hlt
        subst hA
        obtain ⟨bd, hB, n0, ht⟩ := str_at HD.out HB.out hly
        subst hB
        have HLY := Aside.mk hly
        clear hs ht
        by_cases he : isText xs[k] ys[k] = true
        · have HE := Aside.mk he
          have he2 : (xs[k].toList == ys[k].toList) = true := he
          clear he
          go_wp2_with fail
          go_quiet (fail)
          go_wp2
          go_roundw
          case rel =>
            refine ⟨k + 1, by omega, by go_num, ⟨below_drewN HB.out _⟩, ⟨fun j hj hx hy => ?_⟩⟩
            rcases Nat.lt_or_ge j k with h1 | h1
            · exact HALL.out j h1 hx hy
            · obtain rfl : j = k := by omega
              exact HE.out
          case measure => simp [intOf]; omega
        · have he0 : isText xs[k] ys[k] = false := by simpa using he
          have HE := Aside.mk he0
          have he2 : (xs[k].toList == ys[k].toList) = false := he0
          clear he he0
          go_wp2_with fail
          go_quiet (fail)
          go_wp2
          go_ret
          exact ⟨ret_bool (zipAll_no hlt HLY.out HE.out).symm, below_drewN HB.out _⟩
      · have hni : ¬ (k : Int) < (xs.length : Int) := by omega
        go_wp2
        go_ret
        exact ⟨ret_bool (zipAll_yes HL.out (fun j hx hy => HALL.out j (by omega) hx hy)).symm, HB.out⟩
  · have hlb : ((xs.length : Int) == (ys.length : Int)) = false := by simp; omega
    have hne : ¬ (xs.length : Int) = (ys.length : Int) := by omega
    have HL := Aside.mk hl
    clear hl
    go_enter Try.func46, Try.ntmps46
    go_wp2
    go_ret
    exact ⟨ret_bool (zipAll_len HL.out).symm, Below.refl _ _⟩
end Go.Proofs.Ytddjbhphhhdnfaa.K
