/- The contracts of filter.kids and of slices.IndexFunc, slices.ContainsFunc over filters: no condition. -/
import Derived.Test.YtddjbhphhhdnfaaStructs
namespace Go.Proofs.Ytddjbhphhhdnfaa.K
open Go.RowKit
set_option linter.unusedVariables false

def kidsOf (x : Filter) : List Filter := if x.Kind = 2 then x.Kids.take 1 else if x.Kind = 3 ∨ x.Kind = 4 then x.Kids else []

set_option maxHeartbeats 1000000 in
theorem kids_any (x : Filter) (cs : List Value) (w : World) (F : Nat → Prop) (h : kFilter.K w F x cs) :
    Calls Try.prog 25 #[.agg cs.toArray] w fun e w' => ∃ A c, e = .returned (.slice A (kidsOf x).length c) ∧ (kidsOf x).length ≤ c ∧ kFilter.C w' F A (kidsOf x).length (kidsOf x) ∧ Below w.heap.size w w' := by
  obtain ⟨A0, c0, A1, c1, rfl, w0, w1, ⟨l0, b0, g0⟩, w2, w3, ⟨l1, b1, g1⟩⟩ := kFilter_open h
  clear h
  by_cases h2 : x.Kind = 2
  · have HK := Aside.mk (show kidsOf x = x.Kids.take 1 by simp [kidsOf, h2])
    have ht : ∀ m, m = min 1 x.Kids.length → kFilter.C w F A1 m (x.Kids.take 1) := by
      rintro m rfl
      have := Kd.C_take g1 (min 1 x.Kids.length) (by omega)
      have e : x.Kids.take (min 1 x.Kids.length) = x.Kids.take 1 := by rw [List.take_eq_take_iff]; omega
      rwa [e] at this
    have HT := Aside.mk ht
    clear ht
    go_enter Try.func25, Try.ntmps25
    go_wp2
    all_goals
      go_ret
      refine ⟨A1, c1, ?_, ?_, ?_, below_alloc (Below.refl _ _) _⟩
      · rw [HK.out, List.length_take]
        show Ending.returned (Value.slice A1 _ c1) = _
        congr 2
        omega
      · rw [HK.out, List.length_take]; omega
      · rw [HK.out]; exact Kd.C_below (HT.out _ (by simp)) (below_alloc (Below.refl _ _) _)
  · by_cases h3 : x.Kind = 3
    · have HK := Aside.mk (show kidsOf x = x.Kids by simp [kidsOf, h3])
      go_enter Try.func25, Try.ntmps25
      go_wp2
      go_ret
      exact ⟨A1, c1, by rw [HK.out]; rfl, by rw [HK.out]; exact l1, by rw [HK.out]; exact Kd.C_below g1 (below_alloc (Below.refl _ _) _), below_alloc (Below.refl _ _) _⟩
    · by_cases h4 : x.Kind = 4
      · have HK := Aside.mk (show kidsOf x = x.Kids by simp [kidsOf, h4])
        go_enter Try.func25, Try.ntmps25
        go_wp2
        go_ret
        exact ⟨A1, c1, by rw [HK.out]; rfl, by rw [HK.out]; exact l1, by rw [HK.out]; exact Kd.C_below g1 (below_alloc (Below.refl _ _) _), below_alloc (Below.refl _ _) _⟩
      · have HK := Aside.mk (show kidsOf x = [] by simp [kidsOf, h2, h3, h4])
        have h2b : (x.Kind == 2) = false := by simpa using h2
        have h3b : (x.Kind == 3) = false := by simpa using h3
        have h4b : (x.Kind == 4) = false := by simpa using h4
        go_enter Try.func25, Try.ntmps25
        go_wp2
        go_ret
        exact ⟨none, 0, by rw [HK.out]; rfl, by rw [HK.out]; simp, by rw [HK.out]; exact Kd.C_nil' _ _ _ _, below_alloc (Below.refl _ _) _⟩

def idxOf {α : Type} (p : α → Bool) : List α → Int
  | [] => -1
  | x :: xs => if p x then 0 else let r := idxOf p xs; if r < 0 then -1 else r + 1

/-- A function value that tells p of the elements. -/
def Tells {α : Type} (d : Kd α) (P : Program) (g : Nat) (cb : Array Value) (p : α → Bool) (xs : List α) (w : World) : Prop :=
  ∀ x ∈ xs, ∀ cs W, d.K W Any x cs → Below w.heap.size w W → Calls P g (#[.agg cs.toArray] ++ cb) W fun e W' => e = .returned (.bool (p x)) ∧ Below W.heap.size W W'

theorem idxOf_no {α : Type} {p : α → Bool} : ∀ {xs : List α}, (∀ j (hx : j < xs.length), p xs[j] = false) → idxOf p xs = -1
  | [], _ => rfl
  | x :: xs, h => by
    have h0 : p x = false := h 0 (by simp)
    have ih := idxOf_no (p := p) (xs := xs) (fun j hx => h (j + 1) (by simpa using hx))
    simp [idxOf, h0, ih]
theorem idxOf_yes {α : Type} {p : α → Bool} : ∀ {xs : List α} {k : Nat} (hk : k < xs.length), (∀ j (_ : j < k) (hx : j < xs.length), p xs[j] = false) → p xs[k] = true → idxOf p xs = (k : Int)
  | [], k, hk, _, _ => absurd hk (by simp)
  | x :: xs, 0, hk, _, h1 => by
    have h1' : p x = true := h1
    simp [idxOf, h1']
  | x :: xs, k + 1, hk, h, h1 => by
    have h0 : p x = false := h 0 (by omega) (by simp)
    have ih := idxOf_yes (p := p) (xs := xs) (k := k) (by simpa using hk) (fun j hj hx => h (j + 1) (by omega) (by simpa using hx)) (by simpa using h1)
    simp [idxOf, h0, ih]
    omega
theorem idxOf_any {α : Type} (p : α → Bool) : ∀ xs : List α, decide (0 ≤ idxOf p xs) = xs.any p ∧ -1 ≤ idxOf p xs
  | [] => by simp [idxOf]
  | x :: xs => by
    obtain ⟨ih, ih2⟩ := idxOf_any p xs
    unfold idxOf
    by_cases h : p x = true
    · simp [h]
    · simp only [h, List.any_cons]
      simp only [← ih]
      constructor
      · by_cases h2 : idxOf p xs < 0
        · simp [h2]
        · simp [h2]; omega
      · by_cases h2 : idxOf p xs < 0
        · simp [h2]
        · simp [h2]; omega
theorem idxOf_lt {α : Type} (p : α → Bool) : ∀ xs : List α, idxOf p xs < xs.length + 1
  | [] => by simp [idxOf]
  | x :: xs => by
    have ih := idxOf_lt p xs
    unfold idxOf
    by_cases h : p x = true
    · simp [h]; omega
    · by_cases h2 : idxOf p xs < 0
      · simp [h, h2]; omega
      · simp [h, h2]; omega

set_option maxHeartbeats 1000000 in
theorem indexF (g : Nat) (cb : Array Value) (eg : ∀ args w, (callFunc g args).run Try.prog w = .ok (.enter g args) w) (p : Filter → Bool) (xs : List Filter) (A : Option Addr) (c : Nat) (w : World) (h : kFilter.C w Any A xs.length xs)
    (hg : Tells kFilter Try.prog g cb p xs w) :
    Calls Try.prog 38 #[.slice A xs.length c, .func (.func g) #[] cb] w fun e w' => e = .returned (.int .i64 (idxOf p xs)) ∧ Below w.heap.size w w' := by
  have hn := h.2.1
  have HG := Aside.mk hg
  have HC := Aside.mk h
  clear hg h
  go_enter Try.func38, Try.ntmps38
  go_wp2
  go_loopw [5, 8] (fun _ i wr => ∃ k : Nat, k ≤ xs.length ∧ i = .int .i64 k ∧ Below w.heap.size w wr ∧ ∀ j (hj : j < k) (hx : j < xs.length), p xs[j] = false) (fun _ i _ => xs.length - (intOf i).toNat)
  case atStart => exact ⟨0, Nat.zero_le _, rfl, Below.refl _ _, fun j hj => absurd hj (Nat.not_lt_zero _)⟩
  case round =>
    obtain ⟨k, hk, rfl, hb, hno⟩ := hrel
    have HNO := Aside.mk hno
    have HB := Aside.mk hb
    clear hno hb
    by_cases hlt : k < xs.length
    · obtain ⟨ad, A0, c0, A1, c1, hA, hF, hl, m0, m1, m2, m3, m4, m5, hK⟩ := kFilter_at HC.out HB.out hlt
      subst hA
      have HK := Aside.mk (HG.out xs[k] (List.getElem_mem hlt) _ wr (Kd.below hK HB.out) HB.out)
      clear hK
      by_cases hp : p xs[k] = true
      · rw [hp] at HK
        have HP := Aside.mk hp
        clear hp
        go_wp2_with fail
        refine HK.out.mono ?_
        rintro e w2 ⟨rfl, hb2⟩
        go_wp2
        go_ret
        exact ⟨by rw [idxOf_yes hlt HNO.out HP.out]; rfl, below_self HB.out hb2⟩
      · have hp0 : p xs[k] = false := by simpa using hp
        rw [hp0] at HK
        have HP := Aside.mk hp0
        clear hp hp0
        go_wp2_with fail
        refine HK.out.mono ?_
        rintro e w2 ⟨rfl, hb2⟩
        go_wp2
        go_roundw
        case rel =>
          refine ⟨k + 1, by omega, by go_num, below_self HB.out hb2, fun j hj hx => ?_⟩
          rcases Nat.lt_or_ge j k with h1 | h1
          · exact HNO.out j h1 hx
          · obtain rfl : j = k := by omega
            exact HP.out
        case measure => simp [intOf]; omega
    · go_wp2
      go_ret
      exact ⟨by rw [idxOf_no (fun j hx => HNO.out j (by omega) hx)]; rfl, HB.out⟩

theorem containsF (g : Nat) (cb : Array Value) (eg : ∀ args w, (callFunc g args).run Try.prog w = .ok (.enter g args) w) (p : Filter → Bool) (xs : List Filter) (A : Option Addr) (c : Nat) (w : World) (h : kFilter.C w Any A xs.length xs)
    (hg : Tells kFilter Try.prog g cb p xs w) :
    Calls Try.prog 24 #[.slice A xs.length c, .func (.func g) #[] cb] w fun e w' => e = .returned (.bool (xs.any p)) ∧ Below w.heap.size w w' := by
  have HK := Aside.mk (indexF g cb eg p xs A c w h hg)
  have HP := Aside.mk (idxOf_any p xs)
  generalize idxOf p xs = r at HK HP
  clear hg h
  go_enter Try.func24, Try.ntmps24
  go_wp2_with fail
  refine HK.out.mono ?_
  rintro e w2 ⟨rfl, hb2⟩
  go_wp2
  go_ret
  exact ⟨by rw [← HP.out.1]; rfl, hb2⟩
end Go.Proofs.Ytddjbhphhhdnfaa.K
