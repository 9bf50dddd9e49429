/- The reference's Holds, of a filter that may be. -/
import Derived.Test.YtddjbhphhhdnfaaF11
namespace Go.Proofs.Ytddjbhphhhdnfaa.K
open Go.RowKit
set_option linter.unusedVariables false
set_option linter.unusedSimpArgs false

set_option maxHeartbeats 8000000 in
set_option maxRecDepth 100000 in
theorem refHolds_5 (ft : Fact) (x : Filter) (cs fs : List Value) (w : World) (h : kFilter.K w Any x cs) (hf : kFact.K w Any ft fs) (k : x.Kind = 5) (hp : partOf ft.Dims.length ft.Meas.length x = true) :
    Calls Try.prog 12 #[.agg cs.toArray, .agg fs.toArray] w fun e w' => e = .returned (.bool (leafH ft x)) ∧ Below w.heap.size w w' := by
  obtain ⟨A0, c0, A1, c1, rfl, q0, q1, q2, q3, q4, q5⟩ := kFilter_open h
  obtain ⟨B0, d0, B1, d1, rfl, r0, r1, r2⟩ := kFact_open hf
  have htl := q2.2.2.2.1
  have hdl := r1.2.2.2.1
  have HT := Aside.mk q2.2.2
  have hD := r1.2.2
  have hd : 0 ≤ x.Dim ∧ x.Dim < ft.Dims.length := by
    simp [partOf, k] at hp
    omega
  obtain ⟨e0, e1⟩ := hd
  obtain ⟨ad, hA, m1, hs⟩ := dim_cell ft x w B0 hD e0 e1
  subst hA
  have HR := Aside.mk (show leafH ft x = x.Texts.any (isText (dimT ft x.Dim)) by
    unfold leafH
    rw [if_neg (by omega), if_neg (by omega), if_pos k])
  rw [HR.out]
  clear h hf q0 q1 q2 q3 q4 q5 r0 r1 r2 hp hD HR
  generalize dimT ft x.Dim = t at *
  have m2 : ∀ o o' n, (((w.alloc o).alloc o').drewN n).cell? (ad.add x.Dim.toNat) = some (.string t) := fun o o' n => m1 o o'
  go_enter Try.func12, Try.ntmps12
  go_wp2_with fail
  go_loopw [9] (fun i wr => ∃ (n q : Nat), n ≤ x.Texts.length ∧ i = .int .i64 n ∧ wr = ((w.alloc (.cells #[.int .i64 5, .int .i64 x.Dim, .slice A0 x.Texts.length c0, .int .i64 x.Lo, .int .i64 x.Hi, .slice A1 x.Kids.length c1] 25 (0, 0))).alloc (.cells #[.int .i64 ft.Time, .slice (some ad) ft.Dims.length d0, .slice B1 ft.Meas.length d1] 28 (0, 0))).drewN q ∧ Aside (∀ j (hj : j < n) (hx : j < x.Texts.length), isText t x.Texts[j] = false)) (fun i _ => x.Texts.length - (intOf i).toNat)
  case atStart => exact ⟨0, 0, Nat.zero_le _, rfl, rfl, ⟨fun j hj => absurd hj (Nat.not_lt_zero _)⟩⟩
  case round =>
    obtain ⟨n, q, hn, rfl, rfl, HNO⟩ := hrel
    by_cases hlt : n < x.Texts.length
    · obtain ⟨at0, hA0, n0, hs0⟩ := str_at HT.out (Below.refl _ w) hlt
      subst hA0
      have n1 : ∀ o o' q, (((w.alloc o).alloc o').drewN q).cell? (at0.add n) = some (.string x.Texts[n]) := fun o o' q => ((below_alloc (below_alloc (Below.refl _ w) o) o').cell (World.block_lt_of_cell? w _ n0)).trans n0
      clear n0 hs0
      have hni : (n : Int) < (x.Texts.length : Int) := by omega
      by_cases hp : isText x.Texts[n] t = true
      · have HP := Aside.mk hp
        have he : (x.Texts[n].toList == t.toList) = true := hp
        clear hp
        go_wp2_with fail
        go_quiet (fail)
        go_wp2
        go_ret
        refine ⟨ret_bool ?_, below_drewN (below_drewN (below_alloc (below_alloc (Below.refl _ w) _) _) _) _⟩
        exact (List.any_eq_true.2 ⟨_, List.getElem_mem hlt, (isText_comm _ _).trans HP.out⟩).symm
      · have hp0 : isText x.Texts[n] t = false := by simpa using hp
        have HP := Aside.mk hp0
        have he : (x.Texts[n].toList == t.toList) = false := hp0
        clear hp hp0
        go_wp2_with fail
        go_quiet (fail)
        go_wp2
        go_roundw
        case rel =>
          refine ⟨n + 1, q + nq, by omega, by go_num, ?_, ⟨fun j hj hx => ?_⟩⟩
          · rfl
          · rcases Nat.lt_or_ge j n with h1 | h1
            · exact HNO.out j h1 hx
            · obtain rfl : j = n := by omega
              exact (isText_comm _ _).trans HP.out
        case measure => simp [intOf]; omega
    · have hno : x.Texts.any (isText t) = false := by
        rw [List.any_eq_false]
        intro y hy
        obtain ⟨j, hj, rfl⟩ := List.mem_iff_getElem.1 hy
        rw [HNO.out j (by omega) hj]; simp
      have HN := Aside.mk hno
      have hni : ¬ (n : Int) < (x.Texts.length : Int) := by omega
      clear hno
      go_wp2
      go_ret
      exact ⟨ret_bool HN.out.symm, below_drewN (below_alloc (below_alloc (Below.refl _ w) _) _) _⟩

/-- A filter all of whose parts may be, for facts of so many dimensions and measures. -/
def Val (D M : Int) (x : Filter) : Prop := ∃ d, allF (fineC D M) x d = true
theorem Val.part {D M : Int} {x : Filter} (h : Val D M x) : partOf D M x = true := by
  obtain ⟨d, h⟩ := h
  rw [allF_eq, Bool.and_eq_true] at h
  have := h.1
  simp only [fineC, Bool.and_eq_true] at this
  exact this.2
theorem Val.kid {D M : Int} {x k : Filter} (h : Val D M x) (hk : k ∈ kidsOf x) : Val D M k := by
  obtain ⟨d, h⟩ := h
  rw [allF_eq, Bool.and_eq_true, List.all_eq_true] at h
  exact ⟨d + 1, h.2 k hk⟩
theorem Val.of_ok {D M : Int} {x : Filter} (h : okF D M x = true) : Val D M x := by
  unfold okF at h
  rw [Bool.and_eq_true] at h
  exact ⟨1, h.2⟩

theorem two_known {w W : World} {c1 c2 : Array Value} {t1 t2 : TypeId} (hW : (w.alloc (.cells c1 t1 (0, 0))).alloc (.cells c2 t2 (0, 0)) = W) :
    W.heap[w.heap.size]? = some (.cells c1 t1 (0, 0)) ∧ W.heap[w.heap.size + 1]? = some (.cells c2 t2 (0, 0)) ∧ Below w.heap.size w W := by
  subst hW
  refine ⟨blk_alloc (blk_new _ _) _, ?_, below_alloc (below_alloc (Below.refl _ w) _) _⟩
  have := blk_new (w.alloc (.cells c1 t1 (0, 0))) (.cells c2 t2 (0, 0))
  rw [show (w.alloc (.cells c1 t1 (0, 0))).heap.size = w.heap.size + 1 by simp] at this
  exact this

def RefHoldsAt (ft : Fact) (ks : List Filter) : Prop := ∀ k ∈ ks, ∀ cs fs W, kFilter.K W Any k cs → kFact.K W Any ft fs → Calls Try.prog 12 #[.agg cs.toArray, .agg fs.toArray] W fun e W' => e = .returned (.bool (holdsF ft k)) ∧ Below W.heap.size W W'

set_option maxHeartbeats 8000000 in
set_option maxRecDepth 100000 in
theorem refHolds_2 (ft : Fact) (x : Filter) (cs fs : List Value) (w : World) (h : kFilter.K w Any x cs) (hf : kFact.K w Any ft fs) (k : x.Kind = 2) (hp : partOf ft.Dims.length ft.Meas.length x = true) (ih : RefHoldsAt ft (kidsOf x)) :
    Calls Try.prog 12 #[.agg cs.toArray, .agg fs.toArray] w fun e w' => e = .returned (.bool (holdsF ft x)) ∧ Below w.heap.size w w' := by
  have HB := Aside.mk (fun o o' => below_alloc (below_alloc (Below.refl _ w) o) o')
  have HF := Aside.mk hf
  obtain ⟨A0, c0, A1, c1, rfl, q0, q1, q2, q3, q4, q5⟩ := kFilter_open h
  obtain ⟨B0, d0, B1, d1, rfl, r0, r1, r2⟩ := kFact_open hf
  have hl : x.Kids.length = 1 := by
    simp only [partOf, k, if_true, decide_eq_true_eq] at hp
    omega
  obtain ⟨y, hy⟩ : ∃ y, x.Kids = [y] := List.length_eq_one_iff.1 hl
  have hko : kidsOf x = [y] := by simp [kidsOf, k, hy]
  have hlt : 0 < x.Kids.length := by omega
  have hx0 : x.Kids[0] = y := by simp [hy]
  have HR := Aside.mk (show holdsF ft x = !holdsF ft y by rw [holdsF_eq, if_neg (by omega), if_pos k, hko]; simp)
  rw [HR.out]
  have HC := Aside.mk q5.2.2
  have hih := ih y (by rw [hko]; simp)
  have HIH := Aside.mk hih
  have hlti : (0 : Int) < (x.Kids.length : Int) := by omega
  have HL := Aside.mk hl
  have HX0 := Aside.mk hx0
  clear h hf q0 q1 q2 q3 q4 q5 r0 r1 r2 hp ih hl hy hko hx0 hih
  generalize hr : holdsF ft y = r at HIH ⊢
  have HRR := Aside.mk hr
  clear hr
  go_enter Try.func12, Try.ntmps12
  go_wp2_with fail
  generalize hW : (w.alloc (.cells #[.int .i64 2, .int .i64 x.Dim, .slice A0 x.Texts.length c0, .int .i64 x.Lo, .int .i64 x.Hi, .slice A1 x.Kids.length c1] 25 (0, 0))).alloc (.cells #[.int .i64 ft.Time, .slice B0 ft.Dims.length d0, .slice B1 ft.Meas.length d1] 28 (0, 0)) = W
  obtain ⟨hb1, hb2, hbel⟩ := two_known hW
  obtain ⟨ad, E0, e0, E1, e1, hA, hFF, hal, m0, m1, m2, m3, m4, m5, hK⟩ := kFilter_at HC.out hbel hlt
  rw [HX0.out] at m0 m1 m2 m3 m4 m5 hK
  subst hA
  simp only [Nat.zero_mul, Addr.add, if_true] at m0 m1 m2 m3 m4 m5
  have i5 := (blk_cell hb1 5).trans rfl
  have j0 := (blk_cell hb2 0).trans rfl
  have j1 := (blk_cell hb2 1).trans rfl
  have j2 := (blk_cell hb2 2).trans rfl
  have HBL := Aside.mk hbel
  have HI := Aside.mk (HIH.out _ _ W.drew (Kd.below hK hbel.drew) (Kd.below HF.out hbel.drew))
  clear hb1 hb2 hW hK hbel
  go_still_tail 5, (by kernel_rfl)
  change wpList _ _ _ _ _ W.drew
  go_wp2_with fail
  refine HI.out.mono ?_
  rintro e w2 ⟨rfl, hb⟩
  go_wp2
  go_ret
  exact ⟨rfl, below_self HBL.out.drew hb⟩
set_option maxHeartbeats 8000000 in
set_option maxRecDepth 100000 in
theorem refHolds_3 (ft : Fact) (x : Filter) (cs fs : List Value) (w : World) (h : kFilter.K w Any x cs) (hf : kFact.K w Any ft fs) (k : x.Kind = 3) (ih : RefHoldsAt ft (kidsOf x)) :
    Calls Try.prog 12 #[.agg cs.toArray, .agg fs.toArray] w fun e w' => e = .returned (.bool (holdsF ft x)) ∧ Below w.heap.size w w' := by
  have HF := Aside.mk hf
  obtain ⟨A0, c0, A1, c1, rfl, q0, q1, q2, q3, q4, q5⟩ := kFilter_open h
  obtain ⟨B0, d0, B1, d1, rfl, r0, r1, r2⟩ := kFact_open hf
  have hko : kidsOf x = x.Kids := by simp [kidsOf, k]
  have HR := Aside.mk (show holdsF ft x = x.Kids.all (holdsF ft) by rw [holdsF_eq, if_neg (by omega), if_neg (by omega), if_pos k, hko])
  have HC := Aside.mk q5.2.2
  have hkl := q5.2.2.2.1
  rw [hko] at ih
  have HIH := Aside.mk ih
  rw [k]
  clear h hf q0 q1 q2 q3 q4 q5 r0 r1 r2 ih hko k
  go_enter Try.func12, Try.ntmps12
  go_wp2
  generalize hW : (w.alloc (.cells #[.int .i64 3, .int .i64 x.Dim, .slice A0 x.Texts.length c0, .int .i64 x.Lo, .int .i64 x.Hi, .slice A1 x.Kids.length c1] 25 (0, 0))).alloc (.cells #[.int .i64 ft.Time, .slice B0 ft.Dims.length d0, .slice B1 ft.Meas.length d1] 28 (0, 0)) = W
  obtain ⟨hb1, hb2, hbel⟩ := two_known hW
  have HB1 := Aside.mk hb1
  have HB2 := Aside.mk hb2
  have HBL := Aside.mk hbel
  clear hb1 hb2 hbel hW
  go_loopw [5] (fun i wr => ∃ n : Nat, n ≤ x.Kids.length ∧ i = .int .i64 n ∧ Aside (Below W.heap.size W wr) ∧ Aside (∀ j (hj : j < n) (hx : j < x.Kids.length), holdsF ft x.Kids[j] = true)) (fun i _ => x.Kids.length - (intOf i).toNat)
  case atStart => exact ⟨0, Nat.zero_le _, rfl, ⟨Below.refl _ _⟩, ⟨fun j hj => absurd hj (Nat.not_lt_zero _)⟩⟩
  case round =>
    obtain ⟨n, hn, rfl, HBR, HALL⟩ := hrel
    have hb1 := blk_below HB1.out HBR.out
    have hb2 := blk_below HB2.out HBR.out
    have i5 := (blk_cell hb1 5).trans rfl
    have j0 := (blk_cell hb2 0).trans rfl
    have j1 := (blk_cell hb2 1).trans rfl
    have j2 := (blk_cell hb2 2).trans rfl
    have HB0 := Aside.mk (below_self HBL.out HBR.out)
    clear hb1 hb2
    by_cases hlt : n < x.Kids.length
    · have hni : (n : Int) < (x.Kids.length : Int) := by omega
      obtain ⟨ad, E0, e0, E1, e1, hA, hFF, hal, m0, m1, m2, m3, m4, m5, hK⟩ := kFilter_at HC.out HB0.out hlt
      subst hA
      have HI := Aside.mk (HIH.out x.Kids[n] (List.getElem_mem hlt) _ _ wr.drew (Kd.below hK HB0.out.drew) (Kd.below HF.out HB0.out.drew))
      clear hK hFF
      by_cases hv : holdsF ft x.Kids[n] = true
      · rw [hv] at HI
        have HV := Aside.mk hv
        clear hv
        go_wp2_with fail
        go_still_tail 6, (by kernel_rfl)
        change wpList _ _ _ _ _ wr.drew
        go_wp2_with fail
        refine HI.out.mono ?_
        rintro e w2 ⟨rfl, hb⟩
        have HBN := Aside.mk (below_self HBR.out.drew hb)
        clear hb i5 j0 j1 j2 m0 m1 m2 m3 m4 m5
        go_wp2
        go_roundw
        case rel =>
          refine ⟨n + 1, by omega, by go_num, HBN, ⟨fun j hj hx => ?_⟩⟩
          rcases Nat.lt_or_ge j n with h1 | h1
          · exact HALL.out j h1 hx
          · obtain rfl : j = n := by omega
            exact HV.out
        case measure => simp [intOf]; omega
      · have hv0 : holdsF ft x.Kids[n] = false := by simpa using hv
        rw [hv0] at HI
        have HV := Aside.mk hv0
        clear hv hv0
        go_wp2_with fail
        go_still_tail 6, (by kernel_rfl)
        change wpList _ _ _ _ _ wr.drew
        go_wp2_with fail
        refine HI.out.mono ?_
        rintro e w2 ⟨rfl, hb⟩
        have HBN := Aside.mk (below_self HBR.out.drew hb)
        clear hb i5 j0 j1 j2 m0 m1 m2 m3 m4 m5
        go_wp2
        go_ret
        refine ⟨ret_bool ?_, below_self HBL.out HBN.out⟩
        rw [HR.out]
        exact (by rw [List.all_eq_false]; exact ⟨_, List.getElem_mem hlt, by rw [HV.out]; simp⟩ : x.Kids.all (holdsF ft) = false).symm
    · have hni : ¬ (n : Int) < (x.Kids.length : Int) := by omega
      go_wp2
      go_ret
      refine ⟨ret_bool ?_, below_self HBL.out HBR.out⟩
      rw [HR.out]
      refine (List.all_eq_true.2 fun y hy => ?_).symm
      obtain ⟨j, hj, rfl⟩ := List.mem_iff_getElem.1 hy
      exact HALL.out j (by omega) hj

set_option maxHeartbeats 8000000 in
set_option maxRecDepth 100000 in
theorem refHolds_4 (ft : Fact) (x : Filter) (cs fs : List Value) (w : World) (h : kFilter.K w Any x cs) (hf : kFact.K w Any ft fs) (k : x.Kind = 4) (ih : RefHoldsAt ft (kidsOf x)) :
    Calls Try.prog 12 #[.agg cs.toArray, .agg fs.toArray] w fun e w' => e = .returned (.bool (holdsF ft x)) ∧ Below w.heap.size w w' := by
  have HF := Aside.mk hf
  obtain ⟨A0, c0, A1, c1, rfl, q0, q1, q2, q3, q4, q5⟩ := kFilter_open h
  obtain ⟨B0, d0, B1, d1, rfl, r0, r1, r2⟩ := kFact_open hf
  have hko : kidsOf x = x.Kids := by simp [kidsOf, k]
  have HR := Aside.mk (show holdsF ft x = x.Kids.any (holdsF ft) by rw [holdsF_eq, if_neg (by omega), if_neg (by omega), if_neg (by omega), if_pos k, hko])
  have HC := Aside.mk q5.2.2
  have hkl := q5.2.2.2.1
  rw [hko] at ih
  have HIH := Aside.mk ih
  rw [k]
  clear h hf q0 q1 q2 q3 q4 q5 r0 r1 r2 ih hko k
  go_enter Try.func12, Try.ntmps12
  go_wp2
  generalize hW : (w.alloc (.cells #[.int .i64 4, .int .i64 x.Dim, .slice A0 x.Texts.length c0, .int .i64 x.Lo, .int .i64 x.Hi, .slice A1 x.Kids.length c1] 25 (0, 0))).alloc (.cells #[.int .i64 ft.Time, .slice B0 ft.Dims.length d0, .slice B1 ft.Meas.length d1] 28 (0, 0)) = W
  obtain ⟨hb1, hb2, hbel⟩ := two_known hW
  have HB1 := Aside.mk hb1
  have HB2 := Aside.mk hb2
  have HBL := Aside.mk hbel
  clear hb1 hb2 hbel hW
  go_loopw [7] (fun i wr => ∃ n : Nat, n ≤ x.Kids.length ∧ i = .int .i64 n ∧ Aside (Below W.heap.size W wr) ∧ Aside (∀ j (hj : j < n) (hx : j < x.Kids.length), holdsF ft x.Kids[j] = false)) (fun i _ => x.Kids.length - (intOf i).toNat)
  case atStart => exact ⟨0, Nat.zero_le _, rfl, ⟨Below.refl _ _⟩, ⟨fun j hj => absurd hj (Nat.not_lt_zero _)⟩⟩
  case round =>
    obtain ⟨n, hn, rfl, HBR, HALL⟩ := hrel
    have hb1 := blk_below HB1.out HBR.out
    have hb2 := blk_below HB2.out HBR.out
    have i5 := (blk_cell hb1 5).trans rfl
    have j0 := (blk_cell hb2 0).trans rfl
    have j1 := (blk_cell hb2 1).trans rfl
    have j2 := (blk_cell hb2 2).trans rfl
    have HB0 := Aside.mk (below_self HBL.out HBR.out)
    clear hb1 hb2
    by_cases hlt : n < x.Kids.length
    · have hni : (n : Int) < (x.Kids.length : Int) := by omega
      obtain ⟨ad, E0, e0, E1, e1, hA, hFF, hal, m0, m1, m2, m3, m4, m5, hK⟩ := kFilter_at HC.out HB0.out hlt
      subst hA
      have HI := Aside.mk (HIH.out x.Kids[n] (List.getElem_mem hlt) _ _ wr.drew (Kd.below hK HB0.out.drew) (Kd.below HF.out HB0.out.drew))
      clear hK hFF
      by_cases hv : holdsF ft x.Kids[n] = false
      · rw [hv] at HI
        have HV := Aside.mk hv
        clear hv
        go_wp2_with fail
        go_still_tail 6, (by kernel_rfl)
        change wpList _ _ _ _ _ wr.drew
        go_wp2_with fail
        refine HI.out.mono ?_
        rintro e w2 ⟨rfl, hb⟩
        have HBN := Aside.mk (below_self HBR.out.drew hb)
        clear hb i5 j0 j1 j2 m0 m1 m2 m3 m4 m5
        go_wp2
        go_roundw
        case rel =>
          refine ⟨n + 1, by omega, by go_num, HBN, ⟨fun j hj hx => ?_⟩⟩
          rcases Nat.lt_or_ge j n with h1 | h1
          · exact HALL.out j h1 hx
          · obtain rfl : j = n := by omega
            exact HV.out
        case measure => simp [intOf]; omega
      · have hv0 : holdsF ft x.Kids[n] = true := by simpa using hv
        rw [hv0] at HI
        have HV := Aside.mk hv0
        clear hv hv0
        go_wp2_with fail
        go_still_tail 6, (by kernel_rfl)
        change wpList _ _ _ _ _ wr.drew
        go_wp2_with fail
        refine HI.out.mono ?_
        rintro e w2 ⟨rfl, hb⟩
        have HBN := Aside.mk (below_self HBR.out.drew hb)
        clear hb i5 j0 j1 j2 m0 m1 m2 m3 m4 m5
        go_wp2
        go_ret
        refine ⟨ret_bool ?_, below_self HBL.out HBN.out⟩
        rw [HR.out]
        exact (List.any_eq_true.2 ⟨_, List.getElem_mem hlt, HV.out⟩).symm
    · have hni : ¬ (n : Int) < (x.Kids.length : Int) := by omega
      go_wp2
      go_ret
      refine ⟨ret_bool ?_, below_self HBL.out HBR.out⟩
      rw [HR.out]
      refine (List.any_eq_false.2 fun y hy => ?_).symm
      obtain ⟨j, hj, rfl⟩ := List.mem_iff_getElem.1 hy
      rw [HALL.out j (by omega) hj]; simp

theorem refHolds_1 (ft : Fact) (x : Filter) (cs fs : List Value) (w : World) (h : kFilter.K w Any x cs) (hf : kFact.K w Any ft fs) (k : x.Kind = 1) :
    Calls Try.prog 12 #[.agg cs.toArray, .agg fs.toArray] w fun e w' => e = .returned (.bool (holdsF ft x)) ∧ Below w.heap.size w w' := by
  obtain ⟨A0, c0, A1, c1, rfl, q0, q1, q2, q3, q4, q5⟩ := kFilter_open h
  obtain ⟨B0, d0, B1, d1, rfl, r0, r1, r2⟩ := kFact_open hf
  have HB := Aside.mk (fun o o' => below_alloc (below_alloc (Below.refl _ w) o) o')
  have HR := Aside.mk (show holdsF ft x = true by rw [holdsF_eq, if_pos k])
  clear h hf q0 q1 q2 q3 q4 q5 r0 r1 r2
  go_enter Try.func12, Try.ntmps12
  go_wp2
  go_ret
  exact ⟨ret_bool HR.out.symm, HB.out _ _⟩

theorem refHolds_any (ft : Fact) : ∀ n x, ht x ≤ n → Val ft.Dims.length ft.Meas.length x → ∀ cs fs w, kFilter.K w Any x cs → kFact.K w Any ft fs →
    Calls Try.prog 12 #[.agg cs.toArray, .agg fs.toArray] w fun e w' => e = .returned (.bool (holdsF ft x)) ∧ Below w.heap.size w w' := by
  intro n
  induction n with
  | zero => intro x hx; rw [ht_eq] at hx; omega
  | succ n ih =>
    intro x hx hv cs fs w h hf
    have hih : RefHoldsAt ft (kidsOf x) := fun k hk cs fs W hK hF => ih k (by have := ht_kid hk; omega) (hv.kid hk) cs fs W hK hF
    have hp := hv.part
    by_cases k1 : x.Kind = 1
    · exact refHolds_1 ft x cs fs w h hf k1
    by_cases k2 : x.Kind = 2
    · exact refHolds_2 ft x cs fs w h hf k2 hp hih
    by_cases k3 : x.Kind = 3
    · exact refHolds_3 ft x cs fs w h hf k3 hih
    by_cases k4 : x.Kind = 4
    · exact refHolds_4 ft x cs fs w h hf k4 hih
    have he : holdsF ft x = leafH ft x := by rw [holdsF_eq, if_neg k1, if_neg k2, if_neg k3, if_neg k4]
    rw [he]
    by_cases k8 : x.Kind = 8
    · exact refHolds_8 ft x cs fs w h hf k8 hp
    by_cases k5 : x.Kind = 5
    · exact refHolds_5 ft x cs fs w h hf k5 hp
    refine refHolds_67 ft x cs fs w h hf ?_ hp
    have h67 : x.Kind = 5 ∨ x.Kind = 6 ∨ x.Kind = 7 := by
      refine Decidable.byContradiction fun hn => ?_
      simp [partOf, k1, k2, k3, k4, k8, hn] at hp
    omega
end Go.Proofs.Ytddjbhphhhdnfaa.K
