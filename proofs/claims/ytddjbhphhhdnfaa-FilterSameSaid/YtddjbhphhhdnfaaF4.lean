/- The contracts of slices.IndexFunc and slices.ContainsFunc over texts, of filter.may: no condition. -/
import Derived.Test.YtddjbhphhhdnfaaF1
namespace Go.Proofs.Ytddjbhphhhdnfaa.K
open Go.RowKit
set_option linter.unusedVariables false
set_option linter.unusedSimpArgs false

theorem str_at {w w1 : World} {F : Nat → Prop} {A : Option Addr} {n : Nat} {xs : List ByteArray} (h : Kd.string.C w F A n xs) (hb : Below w.heap.size w w1) {i : Nat} (hi : i < xs.length) : ∃ ad, A = some ad ∧ w1.cell? (ad.add i) = some (.string xs[i]) ∧ xs[i].size ≤ 140737488355328 := by
  obtain ⟨ad, c, e, hF, hl, hK, hc⟩ := Kd.C_get h hi
  have hsz : Kd.string.sz = 1 := rfl
  rw [hsz] at hc
  obtain ⟨rfl, hs⟩ := hK
  exact ⟨ad, e, by rw [hb.cell (by rw [Kd.add_block]; exact hl)]; have := hc 0 _ rfl; rwa [Nat.mul_one, Nat.add_zero] at this, hs⟩

def TellsS (P : Program) (g : Nat) (cb : Array Value) (p : ByteArray → Bool) (xs : List ByteArray) (w : World) : Prop :=
  ∀ x ∈ xs, ∀ W, x.size ≤ 140737488355328 → Below w.heap.size w W → Calls P g (#[.string x] ++ cb) W fun e W' => e = .returned (.bool (p x)) ∧ Below W.heap.size W W'

set_option maxHeartbeats 1000000 in
theorem indexS (g : Nat) (cb : Array Value) (eg : ∀ args w, (callFunc g args).run Try.prog w = .ok (.enter g args) w) (p : ByteArray → Bool) (xs : List ByteArray) (A : Option Addr) (c : Nat) (w : World) (h : Kd.string.C w Any A xs.length xs)
    (hg : TellsS Try.prog g cb p xs w) :
    Calls Try.prog 45 #[.slice A xs.length c, .func (.func g) #[] cb] w fun e w' => e = .returned (.int .i64 (idxOf p xs)) ∧ Below w.heap.size w w' := by
  have hn := h.2.1
  have HG := Aside.mk hg
  have HC := Aside.mk h
  clear hg h
  go_enter Try.func45, Try.ntmps45
  go_wp2
  go_loopw [5, 8] (fun _ i wr => ∃ k : Nat, k ≤ xs.length ∧ i = .int .i64 k ∧ Below w.heap.size w wr ∧ ∀ j (hj : j < k) (hx : j < xs.length), p xs[j] = false) (fun _ i _ => xs.length - (intOf i).toNat)
  case atStart => exact ⟨0, Nat.zero_le _, rfl, Below.refl _ _, fun j hj => absurd hj (Nat.not_lt_zero _)⟩
  case round =>
    obtain ⟨k, hk, rfl, hb, hno⟩ := hrel
    have HNO := Aside.mk hno
    have HB := Aside.mk hb
    clear hno hb
    by_cases hlt : k < xs.length
    · obtain ⟨ad, hA, m0, hs⟩ := str_at HC.out HB.out hlt
      subst hA
      have HK := Aside.mk (HG.out xs[k] (List.getElem_mem hlt) wr hs HB.out)
      by_cases hp : p xs[k] = true
      · rw [hp] at HK
        have HP := Aside.mk hp
        clear hp
        go_wp2_with fail
        refine HK.out.mono ?_
        rintro e w2 ⟨rfl, hb2⟩
        go_wp2
        go_ret
        exact ⟨by rw [idxOf_yes hlt HNO.out HP.out]; rfl, below_self HB.out hb2⟩
      · have hp0 : p xs[k] = false := by simpa using hp
        rw [hp0] at HK
        have HP := Aside.mk hp0
        clear hp hp0
        go_wp2_with fail
        refine HK.out.mono ?_
        rintro e w2 ⟨rfl, hb2⟩
        go_wp2
        go_roundw
        case rel =>
          refine ⟨k + 1, by omega, by go_num, below_self HB.out hb2, fun j hj hx => ?_⟩
          rcases Nat.lt_or_ge j k with h1 | h1
          · exact HNO.out j h1 hx
          · obtain rfl : j = k := by omega
            exact HP.out
        case measure => simp [intOf]; omega
    · go_wp2
      go_ret
      exact ⟨by rw [idxOf_no (fun j hx => HNO.out j (by omega) hx)]; rfl, HB.out⟩

def long (t : ByteArray) : Bool := decide (64 < t.size)
theorem long_any (t : ByteArray) (W : World) (h : t.size ≤ 140737488355328) : Calls Try.prog 37 #[.string t] W fun e W' => e = .returned (.bool (long t)) ∧ Below W.heap.size W W' := by
  go_enter Try.func37, Try.ntmps37
  go_wp2
  go_ret
  exact ⟨by simp [long]; omega, Below.refl _ _⟩

/-- Is one of the texts too long? -/
theorem containsLong (xs : List ByteArray) (A : Option Addr) (c : Nat) (w : World) (h : Kd.string.C w Any A xs.length xs) :
    Calls Try.prog 36 #[.slice A xs.length c, .func (.func 37) #[] #[]] w fun e w' => e = .returned (.bool (xs.any long)) ∧ Below w.heap.size w w' := by
  have HK := Aside.mk (indexS 37 #[] (enters_of Try.func37 (by kernel_rfl) rfl) long xs A c w h (fun x _ W hs _ => long_any x W hs))
  have HP := Aside.mk (idxOf_any long xs)
  generalize idxOf long xs = r at HK HP
  clear h
  go_enter Try.func36, Try.ntmps36
  go_wp2_with fail
  refine HK.out.mono ?_
  rintro e w2 ⟨rfl, hb2⟩
  go_wp2
  go_ret
  exact ⟨by rw [← HP.out.1]; rfl, hb2⟩

/-- What a part by itself must be. -/
def partOf (dims meas : Int) (x : Filter) : Bool :=
  if x.Kind = 2 then decide ((x.Kids.length : Int) = 1)
  else if x.Kind = 1 ∨ x.Kind = 3 ∨ x.Kind = 4 then true
  else if x.Kind = 8 then decide (0 ≤ x.Dim) && decide (x.Dim < meas)
  else if x.Kind = 5 ∨ x.Kind = 6 ∨ x.Kind = 7 then decide (0 ≤ x.Dim) && decide (x.Dim < dims) && decide (x.Kind = 6 → x.Texts.length = 2) && decide (x.Kind = 7 → x.Texts.length = 1) && !x.Texts.any long
  else false

set_option maxHeartbeats 4000000 in
theorem may_any (dims meas : Int) (x : Filter) (cs : List Value) (w : World) (h : kFilter.K w Any x cs) :
    Calls Try.prog 21 #[.agg #[.int .i64 dims, .int .i64 meas], .agg cs.toArray] w fun e w' => e = .returned (.bool (partOf dims meas x)) ∧ Below w.heap.size w w' := by
  obtain ⟨A0, c0, A1, c1, rfl, w0, w1, ⟨l0, b0, g0⟩, w2, w3, ⟨l1, b1, g1⟩⟩ := kFilter_open h
  clear h
  have h0 := g0.2.1
  have h1 := g1.2.1
  have HG := Aside.mk g0
  clear g0 g1
  have HW := fun W (hW : Below w.heap.size w W) => Aside.mk (containsLong x.Texts A0 c0 W (Kd.C_below HG.out hW))
  obtain ⟨r, hr⟩ : ∃ r, partOf dims meas x = r := ⟨_, rfl⟩
  have HR := Aside.mk hr
  rw [hr]
  clear hr
  by_cases k2 : x.Kind = 2
  · have hR := HR.out
    simp only [partOf, k2, if_true] at hR
    have HR2 := Aside.mk hR
    clear hR
    go_enter Try.func21, Try.ntmps21
    go_wp2
    go_ret
    exact ⟨ret_bool (by rw [← HR2.out]; exact Bool.eq_iff_iff.2 (by simp)), below_alloc (below_alloc (Below.refl _ _) _) _⟩
  · by_cases k134 : x.Kind = 1 ∨ x.Kind = 3 ∨ x.Kind = 4
    · have hR := HR.out
      simp only [partOf, k2, k134, if_false, if_true] at hR
      have HR2 := Aside.mk hR
      clear hR
      rcases k134 with k | k | k
      all_goals
        go_enter Try.func21, Try.ntmps21
        go_wp2
        go_ret
        exact ⟨ret_bool HR2.out, below_alloc (below_alloc (Below.refl _ _) _) _⟩
    · have k1 : ¬ x.Kind = 1 := fun h => k134 (.inl h)
      have k3 : ¬ x.Kind = 3 := fun h => k134 (.inr (.inl h))
      have k4 : ¬ x.Kind = 4 := fun h => k134 (.inr (.inr h))
      by_cases k8 : x.Kind = 8
      · have hR := HR.out
        simp only [partOf, k2, k134, k8, if_false, if_true] at hR
        have HR2 := Aside.mk hR
        clear hR k134 k1 k3 k4
        by_cases d0 : 0 ≤ x.Dim
        · by_cases d1 : x.Dim < meas
          all_goals
            go_enter Try.func21, Try.ntmps21
            go_wp2
            go_ret
            exact ⟨ret_bool (by rw [← HR2.out]; simp [*]), below_alloc (below_alloc (Below.refl _ _) _) _⟩
        · have d0' : decide (0 ≤ x.Dim) = false := by simpa using d0
          go_enter Try.func21, Try.ntmps21
          go_wp2
          all_goals
            go_ret
            exact ⟨ret_bool (by rw [← HR2.out]; simp [*]), below_alloc (below_alloc (Below.refl _ _) _) _⟩
      · have k8b : (x.Kind == 8) = false := by simpa using k8
        have k1b : (x.Kind == 1) = false := by simpa using k1
        have k2b : (x.Kind == 2) = false := by simpa using k2
        have k3b : (x.Kind == 3) = false := by simpa using k3
        have k4b : (x.Kind == 4) = false := by simpa using k4
        have HB := Aside.mk (fun o o' => below_alloc (below_alloc (Below.refl _ w) o) o')
        by_cases k567 : x.Kind = 5 ∨ x.Kind = 6 ∨ x.Kind = 7
        · have hR := HR.out
          simp only [partOf, k2, k134, k8, k567, if_false, if_true] at hR
          have HR2 := Aside.mk hR
          clear hR k134 k1 k2 k3 k4 k8
          by_cases d0 : 0 ≤ x.Dim
          · by_cases d1 : x.Dim < dims
            · by_cases hok : (x.Kind = 6 → x.Texts.length = 2) ∧ (x.Kind = 7 → x.Texts.length = 1)
              · have HR3 := Aside.mk (show (!x.Texts.any long) = r by rw [← HR2.out, decide_eq_true d0, decide_eq_true d1, decide_eq_true hok.1, decide_eq_true hok.2]; simp only [Bool.true_and])
                clear HR2
                rcases k567 with k | k | k
                · have htb : ((x.Texts.length : Int) == (x.Texts.length : Int)) = true := by simp
                  clear hok
                  go_enter Try.func21, Try.ntmps21
                  go_wp2_with fail
                  refine (HW _ (HB.out _ _)).out.mono ?_
                  rintro e w2 ⟨rfl, hb2⟩
                  go_wp2
                  go_ret
                  exact ⟨ret_bool HR3.out, below_self (HB.out _ _) hb2⟩
                · have ht := hok.1 k
                  have htb : ((x.Texts.length : Int) == 2) = true := by rw [ht]; rfl
                  clear hok
                  have HT := Aside.mk ht
                  clear ht
                  go_enter Try.func21, Try.ntmps21
                  go_wp2_with fail
                  refine (HW _ (HB.out _ _)).out.mono ?_
                  rintro e w2 ⟨rfl, hb2⟩
                  go_wp2
                  go_ret
                  exact ⟨ret_bool HR3.out, below_self (HB.out _ _) hb2⟩
                · have ht := hok.2 k
                  have htb : ((x.Texts.length : Int) == 1) = true := by rw [ht]; rfl
                  clear hok
                  have HT := Aside.mk ht
                  clear ht
                  go_enter Try.func21, Try.ntmps21
                  go_wp2_with fail
                  refine (HW _ (HB.out _ _)).out.mono ?_
                  rintro e w2 ⟨rfl, hb2⟩
                  go_wp2
                  go_ret
                  exact ⟨ret_bool HR3.out, below_self (HB.out _ _) hb2⟩
              · have HR3 := Aside.mk (show false = r by
                  rw [← HR2.out]
                  by_cases h6 : (x.Kind = 6 → x.Texts.length = 2)
                  · have h7 : ¬ (x.Kind = 7 → x.Texts.length = 1) := fun h => hok ⟨h6, h⟩
                    simp [h7]
                  · simp [h6])
                clear HR2
                rcases k567 with k | k | k
                · exact absurd ⟨fun h => by omega, fun h => by omega⟩ hok
                · have ht : ¬ x.Texts.length = 2 := fun h => hok ⟨fun _ => h, fun h => by omega⟩
                  have htb : ((x.Texts.length : Int) == 2) = false := by simp; omega
                  clear hok
                  go_enter Try.func21, Try.ntmps21
                  go_wp2
                  go_ret
                  exact ⟨ret_bool HR3.out, HB.out _ _⟩
                · have ht : ¬ x.Texts.length = 1 := fun h => hok ⟨fun h => by omega, fun _ => h⟩
                  have htb : ((x.Texts.length : Int) == 1) = false := by simp; omega
                  clear hok
                  go_enter Try.func21, Try.ntmps21
                  go_wp2
                  go_ret
                  exact ⟨ret_bool HR3.out, HB.out _ _⟩
            · have HR3 := Aside.mk (show false = r by rw [← HR2.out]; simp [d1])
              have d1b : decide (x.Dim < dims) = false := by simpa using d1
              clear HR2
              rcases k567 with k | k | k
              all_goals
                go_enter Try.func21, Try.ntmps21
                go_wp2
                go_ret
                exact ⟨ret_bool HR3.out, HB.out _ _⟩
          · have HR3 := Aside.mk (show false = r by rw [← HR2.out]; simp [d0])
            have d0b : decide (0 ≤ x.Dim) = false := by simpa using d0
            clear HR2
            rcases k567 with k | k | k
            all_goals
              go_enter Try.func21, Try.ntmps21
              go_wp2
              go_ret
              exact ⟨ret_bool HR3.out, HB.out _ _⟩
        · have HR3 := Aside.mk (show false = r by rw [← HR.out]; simp [partOf, k2, k134, k8, k567])
          have k5b : (x.Kind == 5) = false := by simp; omega
          have k6b : (x.Kind == 6) = false := by simp; omega
          have k7b : (x.Kind == 7) = false := by simp; omega
          have htb : ((x.Texts.length : Int) == -1) = false := by first | (simp; done) | (simp; omega)
          clear HR k134 k567 k1 k2 k3 k4 k8
          by_cases d0 : 0 ≤ x.Dim
          · by_cases d1 : x.Dim < dims
            · go_enter Try.func21, Try.ntmps21
              go_wp2
              go_ret
              exact ⟨ret_bool HR3.out, HB.out _ _⟩
            · have d1b : decide (x.Dim < dims) = false := by simpa using d1
              go_enter Try.func21, Try.ntmps21
              go_wp2
              go_ret
              exact ⟨ret_bool HR3.out, HB.out _ _⟩
          · have d0b : decide (0 ≤ x.Dim) = false := by simpa using d0
            go_enter Try.func21, Try.ntmps21
            go_wp2
            go_ret
            exact ⟨ret_bool HR3.out, HB.out _ _⟩
end Go.Proofs.Ytddjbhphhhdnfaa.K
