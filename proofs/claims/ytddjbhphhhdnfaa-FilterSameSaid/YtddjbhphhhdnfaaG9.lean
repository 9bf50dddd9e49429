/- The contract of gristmillref05.Depth: no condition but that the filter is no deeper than 1000. -/
import Derived.Test.YtddjbhphhhdnfaaF6
namespace Go.Proofs.Ytddjbhphhhdnfaa.K
open Go.RowKit
set_option linter.unusedVariables false
set_option linter.unusedSimpArgs false

def maxL (l : List Nat) : Nat := l.foldr max 0
def depthF (x : Filter) : Nat := maxL ((kidsOf x).attach.map fun k => depthF k.1) + 1
termination_by ht x
decreasing_by exact ht_kid k.2
theorem depthF_eq (x : Filter) : depthF x = maxL ((kidsOf x).map depthF) + 1 := by
  rw [depthF]
  congr 2
  rw [← List.attach_map_subtype_val (kidsOf x), List.map_map]
  simp [Function.comp_def]
theorem maxL_le {l : List Nat} {n : Nat} : maxL l ≤ n ↔ ∀ x ∈ l, x ≤ n := by
  induction l with
  | nil => simp [maxL]
  | cons a l ih =>
    have : maxL (a :: l) = max a (maxL l) := rfl
    rw [this, Nat.max_le, ih]
    simp
theorem maxL_append (l m : List Nat) : maxL (l ++ m) = max (maxL l) (maxL m) := by
  induction l with
  | nil => simp [maxL]
  | cons a l ih =>
    have h1 : maxL (a :: l) = max a (maxL l) := rfl
    have h2 : maxL (a :: l ++ m) = max a (maxL (l ++ m)) := rfl
    rw [h2, ih, h1]
    omega
theorem maxL_take {f : Filter → Nat} {ks : List Filter} {k : Nat} (hk : k < ks.length) : maxL ((ks.take (k + 1)).map f) = max (maxL ((ks.take k).map f)) (f ks[k]) := by
  rw [List.take_succ_eq_append_getElem hk, List.map_append, maxL_append]
  have : maxL (List.map f [ks[k]]) = max (f ks[k]) 0 := rfl
  rw [this]
  omega
theorem maxL_take_le {f : Filter → Nat} (ks : List Filter) (k : Nat) : maxL ((ks.take k).map f) ≤ maxL (ks.map f) := by
  conv => rhs; rw [← List.take_append_drop k ks, List.map_append, maxL_append]
  omega
theorem maxL_mem {f : Filter → Nat} {ks : List Filter} {y : Filter} (h : y ∈ ks) : f y ≤ maxL (ks.map f) := maxL_le.1 (Nat.le_refl _) _ (List.mem_map.2 ⟨y, h, rfl⟩)

set_option maxHeartbeats 4000000 in
theorem refDepth_any : ∀ n x, ht x ≤ n → depthF x ≤ 1000 → ∀ cs w, kFilter.K w Any x cs →
    Calls Try.prog 14 #[.agg cs.toArray] w fun e w' => e = .returned (.int .i64 (depthF x)) ∧ Below w.heap.size w w' := by
  intro n
  induction n with
  | zero => intro x hx; rw [ht_eq] at hx; omega
  | succ n ih =>
    intro x hx hd cs w h
    have HB := Aside.mk (fun o => below_alloc (Below.refl _ w) o)
    have HKK := Aside.mk (fun o => refKids_any x _ (w.alloc o) Any (Kd.below h (HB.out o)))
    have hde := depthF_eq x
    have HIH := Aside.mk (fun k (hk : k ∈ kidsOf x) => ih k (by have := ht_kid hk; omega) (by have := maxL_mem (f := depthF) hk; omega))
    obtain ⟨A0, c0, A1, c1, rfl, q0, q1, q2, q3, q4, q5⟩ := kFilter_open h
    have HDE := Aside.mk (And.intro hde hd)
    clear h q0 q1 q2 q3 q4 q5 hde hd
    go_enter Try.func14, Try.ntmps14
    go_wp2_with fail
    refine (HKK.out _).mono ?_
    rintro e w3 ⟨A, c, rfl, hlc, hC, hb3⟩
    have HB3 := Aside.mk (below_self (HB.out _) hb3)
    have HC := Aside.mk hC
    have hn := hC.2.1
    clear hC hb3 HKK hlc
    go_wp2
    go_loopw [3, 5, 6] (fun m i z wr => ∃ k : Nat, k ≤ (kidsOf x).length ∧ i = .int .i64 k ∧ m = .int .i64 (maxL (((kidsOf x).take k).map depthF)) ∧ Aside (Below w3.heap.size w3 wr)) (fun m i z _ => (kidsOf x).length - (intOf i).toNat)
    case atStart => exact ⟨0, Nat.zero_le _, rfl, rfl, ⟨Below.refl _ _⟩⟩
    case round =>
      obtain ⟨k, hk, rfl, rfl, HBR⟩ := hrel
      by_cases hlt : k < (kidsOf x).length
      · have hni : (k : Int) < ((kidsOf x).length : Int) := by omega
        obtain ⟨ad, B0, d0, B1, d1, hA, hFF, hl, m0, m1, m2, m3, m4, m5, hK⟩ := kFilter_at HC.out HBR.out hlt
        subst hA
        have HI := Aside.mk (HIH.out (kidsOf x)[k] (List.getElem_mem hlt) _ wr (Kd.below hK HBR.out))
        have HMT := Aside.mk (maxL_take (f := depthF) hlt)
        have hmm := maxL_mem (f := depthF) (List.getElem_mem hlt)
        have hmt := maxL_take_le (f := depthF) (kidsOf x) k
        have HML := Aside.mk (And.intro hmm hmt)
        clear hK hFF hmm hmt
        generalize maxL (((kidsOf x).take k).map depthF) = mo at *
        generalize depthF (kidsOf x)[k] = de at *
        by_cases hgt : mo < de
        · have hgi : (mo : Int) < (de : Int) := by omega
          go_wp2_with fail
          clear m0 m1 m2 m3 m4 m5
          refine HI.out.mono ?_
          rintro e w5 ⟨rfl, hb5⟩
          go_wp2
          go_roundw
          case rel => exact ⟨k + 1, by omega, by go_num, by rw [HMT.out, Nat.max_eq_right (by omega)], ⟨below_self HBR.out hb5⟩⟩
          case measure => simp [intOf]; omega
        · have hgi : ¬ (mo : Int) < (de : Int) := by omega
          have hgb : decide ((mo : Int) < (de : Int)) = false := by simpa using hgi
          go_wp2_with fail
          clear m0 m1 m2 m3 m4 m5
          refine HI.out.mono ?_
          rintro e w5 ⟨rfl, hb5⟩
          go_wp2
          go_roundw
          case rel => exact ⟨k + 1, by omega, by go_num, by rw [HMT.out, Nat.max_eq_left (by omega)], ⟨below_self HBR.out hb5⟩⟩
          case measure => simp [intOf]; omega
      · have hni : ¬ (k : Int) < ((kidsOf x).length : Int) := by omega
        have hkk : k = (kidsOf x).length := by omega
        subst hkk
        have hmb : maxL ((kidsOf x).map depthF) ≤ 999 := by obtain ⟨hde, hd⟩ := HDE.out; omega
        rw [List.take_length]
        go_wp2
        go_ret
        exact ⟨by rw [HDE.out.1]; go_num, below_self HB3.out HBR.out⟩
end Go.Proofs.Ytddjbhphhhdnfaa.K
