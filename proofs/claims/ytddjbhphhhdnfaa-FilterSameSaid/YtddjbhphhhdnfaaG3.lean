/- The contracts of filter.with and filter.each: no condition. -/
import Derived.Test.YtddjbhphhhdnfaaG2
namespace Go.Proofs.Ytddjbhphhhdnfaa.K
open Go.RowKit
set_option linter.unusedVariables false
set_option linter.unusedSimpArgs false

theorem with_any (k : Int) (A : Option Addr) (n c : Nat) (w : World) :
    Calls Try.prog 29 #[.int .i64 k, .slice A n c] w fun e w' => e = .returned (.agg #[.int .i64 k, .int .i64 0, .slice none 0 0, .int .i64 0, .int .i64 0, .slice A n c]) ∧ Below w.heap.size w w' := by
  go_enter Try.func29, Try.ntmps29
  go_wp2
  exact bodyPost_ret (v := .agg #[.int .i64 k, .int .i64 0, .slice none 0 0, .int .i64 0, .int .i64 0, .slice A n c]) (by simp [results, Try.results29, go_sem]) rfl ⟨rfl, below_alloc (Below.refl _ w) _⟩
theorem Try.info25 : (Try.prog.info? 25).map (fun i => (i.zero, i.size, i.bytes)) = some (some (.agg #[.int .i64 0, .int .i64 0, .slice none 0 0, .int .i64 0, .int .i64 0, .slice none 0 0]), 6, 80) := by kernel_rfl

set_option maxHeartbeats 4000000 in
theorem each_any (g : Nat) (eg : ∀ args w, (callFunc g args).run Try.prog w = .ok (.enter g args) w) (fn : Filter → Filter) (x : Filter) (cs : List Value) (w : World) (h : kFilter.K w Any x cs)
    (hg : ∀ k ∈ kidsOf x, ∀ cs W, kFilter.K W Any k cs → Calls Try.prog g #[.agg cs.toArray] W (Gives (fn k) W)) :
    Calls Try.prog 30 #[.agg cs.toArray, .func (.func g) #[] #[]] w fun e w' => ∃ A c, e = .returned (.slice A (kidsOf x).length c) ∧ (kidsOf x).length ≤ c ∧ kFilter.C w' (New w) A (kidsOf x).length ((kidsOf x).map fn) ∧ Below w.heap.size w w' := by
  have HG := Aside.mk hg
  have HKx := Aside.mk h
  clear hg
  obtain ⟨A0, c0, A1, c1, rfl, q0, q1, q2, q3, q4, q5⟩ := kFilter_open h
  have hkl : (kidsOf x).length * 80 ≤ 140737488355328 := by
    have : (kidsOf x).length ≤ x.Kids.length := by
      unfold kidsOf
      split
      · rw [List.length_take]; omega
      · split
        · exact Nat.le_refl _
        · simp
    have := q5.2.1
    omega
  have HB := Aside.mk (fun o => below_alloc (Below.refl _ w) o)
  have HKK := Aside.mk (fun o => kids_any x _ (w.alloc o) Any (Kd.below HKx.out (HB.out o)))
  clear h q0 q1 q2 q3 q4 q5
  go_enter Try.func30, Try.ntmps30
  go_wp2_with fail
  refine (HKK.out _).mono ?_
  rintro e w3 ⟨A, c, rfl, hlc, hC, hb3⟩
  have HB3 := Aside.mk (below_self (HB.out _) hb3)
  have HC := Aside.mk hC
  have hn := hC.2.1
  clear hC hb3 HKK hlc
  go_wp2
  go_loopw [5, 11] (fun v i wr => ∃ k : Nat, k ≤ (kidsOf x).length ∧ i = .int .i64 k ∧ Aside (Below w.heap.size w wr) ∧ Aside (Below w3.heap.size w3 wr) ∧ Aside (kFilter.Own 25 wr (New w) w3.heap.size v (((kidsOf x).take k).map fn))) (fun v i _ => (kidsOf x).length - (intOf i).toNat)
  case atStart => exact ⟨0, Nat.zero_le _, rfl, ⟨HB3.out⟩, ⟨Below.refl _ _⟩, ⟨Kd.Own_nil _ _ _ _ _⟩⟩
  case round =>
    obtain ⟨k, hk, rfl, HBR, HBR3, HOWN⟩ := hrel
    by_cases hlt : k < (kidsOf x).length
    · obtain ⟨ad, B0, d0, B1, d1, hA, hFF, hl, m0, m1, m2, m3, m4, m5, hK⟩ := kFilter_at HC.out HBR3.out hlt
      subst hA
      have HI := fun o => Aside.mk (HG.out (kidsOf x)[k] (List.getElem_mem hlt) _ (wr.alloc o) (Kd.below hK (below_alloc HBR3.out o)))
      have HBO := Aside.mk (fun o => below_alloc (Below.refl _ wr) o)
      have HSZ := Aside.mk (fun o => show (wr.alloc o).heap.size = wr.heap.size + 1 by simp)
      clear hK hFF
      go_wp2_with fail
      clear m0 m1 m2 m3 m4 m5
      refine (HI _).out.mono ?_
      rintro e w5 ⟨cs5, rfl, hK5, hb5⟩
      clear HI
      have HB5 := Aside.mk (below_self (HBO.out _) hb5)
      have HK5 := Aside.mk (kFilter.mono (F' := fun k => wr.heap.size < k) (fun k hk => by have h1 : _ ≤ k := hk; rw [HSZ.out] at h1; exact h1) hK5)
      obtain ⟨E0, f0, E1, f1, rfl, p0, p1, p2, p3, p4, p5⟩ := kFilter_open hK5
      clear p0 p1 p2 p3 p4 p5 hK5 hb5
      go_wp2_with (at_builtin; go_must (refine Kd.append_one kFilter (W := w5) w3.heap.size rfl (.tmp 15) (.tmp 19) 23 25 (.agg #[.int .i64 0, .int .i64 0, .slice none 0 0, .int .i64 0, .int .i64 0, .slice none 0 0]) 80 rfl Try.underlying23 Try.info25 rfl (by decide) (by decide) u5 (((kidsOf x).take k).map fn) (fn (kidsOf x)[k]) [_, _, _, _, _, _] (New w) (fun k => wr.heap.size < k) rfl rfl HK5.out (Kd.Own_below HOWN.out HB5.out) ?c1 ?c2 ?c3 ?c4 ?next))
      case c1 =>
        intro b hb hb2
        obtain ⟨_, inner, hown, _⟩ := HOWN.out
        refine ⟨?_, fun he => ?_⟩
        · have := HBR.out.size
          simp only [New]; omega
        · have := Kd.own_base hown b he.symm
          omega
      case c2 =>
        intro b hb
        have h1 := HBR.out.size
        have h2 := HB5.out.size
        simp only [New]; omega
      case c3 => exact Nat.le_trans HBR3.out.size HB5.out.size
      case c4 =>
        rw [List.length_map, List.length_take]
        omega
      case next =>
        intro v1 w1 hown hg hat
        have hob : ∀ b, u5.ownBlock = some b → w3.heap.size ≤ b := by
          intro b hb
          obtain ⟨_, inner, hown, _⟩ := HOWN.out
          exact (Kd.own_base hown b hb).1
        have h13 := HB3.out.size
        have hb3 : Below w3.heap.size w3 w1 := (below_self HBR3.out HB5.out).grown hg (Nat.le_trans HBR3.out.size HB5.out.size) hob
        have hbw : Below w.heap.size w w1 := (below_self HBR.out HB5.out).grown hg (Nat.le_trans HBR.out.size HB5.out.size) (fun b hb => Nat.le_trans h13 (hob b hb))
        have HN := Aside.mk hown
        have HN3 := Aside.mk hb3
        have HNW := Aside.mk hbw
        clear hown hg hat hob hb3 hbw h13
        go_wp2
        go_roundw
        case rel =>
          refine ⟨k + 1, by omega, by go_num, HNW, HN3, ⟨?_⟩⟩
          have := HN.out
          rw [List.take_succ_eq_append_getElem hlt, List.map_append]
          simpa using this
        case measure => simp [intOf]; omega
    · have hkk : k = (kidsOf x).length := by omega
      subst hkk
      obtain ⟨A', c', hv, hc', hC'⟩ := Kd.Own_C HOWN.out
      rw [List.take_length, List.length_map] at hv hc' hC'
      subst hv
      have HC' := Aside.mk hC'
      clear hC' HOWN
      go_wp2
      go_ret
      exact ⟨A', c', rfl, hc', HC'.out, HBR.out⟩
end Go.Proofs.Ytddjbhphhhdnfaa.K
