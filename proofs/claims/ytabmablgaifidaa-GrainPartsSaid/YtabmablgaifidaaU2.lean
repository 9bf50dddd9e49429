/- The contract of grain.Union. No condition beyond the row's. -/
import Derived.Test.YtabmablgaifidaaU9
namespace Go.Proofs.Ytabmablgaifidaa.PGrain
open Go.RowKit Go.Proofs.YtabmablgaifidaaW.PrintWords
set_option linter.unusedVariables false

theorem index_none (A : Option Addr) (cap : Nat) (w : World) :
    Calls Try.prog 31 #[.slice A 0 cap, .func (.func 20) #[] #[]] w fun e w' => e = .returned (.int .i64 (-1)) ∧ w = w' := by
  go_enter Try.func31, Try.ntmps31
  go_wp2
  go_loop [8] (fun i => i = .int .i64 0) (fun _ => 0)
  case atStart => rfl
  case round =>
    subst hrel
    go_wp2
    go_ret
    exact ⟨rfl, rfl⟩
theorem delete_none (A : Option Addr) (cap : Nat) (w : World) :
    Calls Try.prog 25 #[.slice A 0 cap, .func (.func 20) #[] #[]] w fun e w' => e = .returned (.slice A 0 cap) ∧ w = w' := by
  go_enter Try.func25, Try.ntmps25
  go_wp2_with (go_at_call 31; refine (index_none _ _ _).mono ?_; rintro e w' ⟨rfl, rfl⟩)
  go_ret
  exact ⟨rfl, rfl⟩

set_option maxHeartbeats 1000000 in
theorem union_none (A0 : Option Addr) (c0 : Nat) (w : World) (hr0 : Kd.C k26 w A0 ([] : List S26).length []) :
    Calls Try.prog 14 #[.slice A0 0 c0] w fun e w' => ∃ v0_ : Value, e = .returned (v0_) ∧ Kd.R k26 26 w' w.heap.size (fun _ => True) v0_ [] ∧ Below w.heap.size w w' := by
  have HC := Aside0.mk (clone_calls A0 c0 [] w hr0 (by simp))
  clear hr0
  go_enter Try.func14, Try.ntmps14
  go_wp2_with fail
  refine HC.out.mono ?_
  rintro e w1 ⟨u, rfl, hu, hb⟩
  obtain ⟨A, c, rfl, hc, _⟩ := Kd.R_reads hu
  have HB := Aside0.mk hb
  clear HC hu hb
  go_wp2_with (first | (go_at_call 25; refine (delete_none _ _ _).mono ?_; rintro e w' ⟨rfl, rfl⟩) | (go_at_call 27; refine (sort_none _ _ _ _).mono ?_; rintro e w' ⟨rfl, rfl⟩))
  go_loop [3, 14] (fun v i => v = .slice none 0 0 ∧ i = .int .i64 0) (fun _ _ => 0)
  case atStart => exact ⟨rfl, rfl⟩
  case round =>
    obtain ⟨rfl, rfl⟩ := hrel
    go_wp2
    go_ret
    exact ⟨_, rfl, Kd.R_nil _ _ _ _ _, HB.out⟩

theorem fold_next (d : List S26) (k : Nat) (h : k < d.length) : foldS [] (d.take (k + 1)) = addS (foldS [] (d.take k)) d[k] := by
  rw [List.take_succ_eq_append_getElem h]
  unfold foldS
  rw [List.foldl_append]
  rfl
theorem fold_le (d : List S26) (k : Nat) (h : k < d.length) : (foldS [] (d.take k)).length ≤ k := by
  have := foldS_length (d.take k) []
  rw [List.length_take] at this
  simp only [List.length_nil] at this
  omega

theorem one_known {w W : World} {a b : Value} {t : TypeId} (hW : w.alloc (.cells #[a, b] t) = W) : W.cell? ⟨w.heap.size, 0, none⟩ = some a ∧ W.cell? ⟨w.heap.size, 1, none⟩ = some b ∧ Below w.heap.size w W := by
  subst hW
  have h := blk_new w (.cells #[a, b] t)
  exact ⟨(blk_cell h 0).trans rfl, (blk_cell h 1).trans rfl, below_alloc (Below.refl _ _) _⟩

theorem blk_cell1 {w W : World} {g o : Nat} {v : Value} (h : w.cell? ⟨g, o, none⟩ = some v) (hb : Below w.heap.size w W) : W.cell? ⟨g, o, none⟩ = some v := (hb.cell (p := ⟨g, o, none⟩) (World.block_lt_of_cell? w ⟨g, o, none⟩ h)).trans h

set_option maxHeartbeats 4000000 in
theorem union_some (A0 : Option Addr) (c0 : Nat) (l0 : List (S26)) (w : World) (hr0 : Kd.C k26 w A0 l0.length l0) (hc0 : l0.length ≤ c0) (hb : l0.length ≤ 8796093022208) (hp : 0 < l0.length) :
    Calls Try.prog 14 #[.slice A0 l0.length c0] w fun e w' => ∃ v0_ : Value, e = .returned (v0_) ∧ Kd.R k26 26 w' w.heap.size (fun _ => True) v0_ (unionS l0) ∧ Below w.heap.size w w' := by
  have HC := Aside0.mk (clone_calls A0 c0 l0 w hr0 hb)
  clear hr0
  go_enter Try.func14, Try.ntmps14
  go_wp2_with fail
  refine HC.out.mono ?_
  rintro e w1 ⟨u, rfl, hu, hb1⟩
  obtain ⟨g, cap, rfl, hg, hrow⟩ := Row.of_R hu hp
  have HB1 := Aside0.mk hb1
  have HD := Aside0.mk (delete_calls g cap l0 w1 hrow hb)
  clear HC hu hb1 hrow
  go_wp2_with fail
  refine HD.out.mono ?_
  rintro e w2 ⟨rfl, hr2, hg2⟩
  have hl2 : (filterS l0).length ≤ l0.length := List.length_filter_le _ _
  have HS := Aside0.mk (sort_calls g cap (filterS l0) w2 hr2 (by omega))
  have HB2 := Aside0.mk (HB1.out.grown hg2 HB1.out.size (fun k hk => by injection hk with hk; omega))
  clear HD hr2 hg2
  go_wp2_with fail
  refine HS.out.mono ?_
  rintro e w3 ⟨rfl, d, hperm, hsort, hr3, hg3⟩
  have HU := Aside0.mk (unionS_of hperm hsort)
  have hdl : d.length = (filterS l0).length := hperm.length_eq
  have HB3 := Aside0.mk (HB2.out.grown hg3 HB2.out.size (fun k hk => by injection hk with hk; omega))
  have HR3 := Aside0.mk hr3
  rw [← hdl]
  have hdm : d.length ≤ 8796093022208 := by omega
  clear HS hr3 hg3 hperm hsort hdl hl2
  go_wp2_with fail
  go_loopw [3, 14] (fun v i wr => ∃ k : Nat, k ≤ d.length ∧ i = .int .i64 k ∧ Aside0 (Below w.heap.size w wr) ∧ Aside0 (Row wr g cap d) ∧ Aside0 (Kd.R k26 26 wr w.heap.size (fun k_ => k_ ≠ g) v (foldS [] (d.take k)))) (fun _ i _ => d.length - (intOf i).toNat)
  case atStart => exact ⟨0, Nat.zero_le _, rfl, HB3, HR3, ⟨Kd.R_nil _ _ _ _ _⟩⟩
  case round =>
    clear HB1 HB2 HB3 HR3
    obtain ⟨k, hk, rfl, HB, HR, HO⟩ := hrel
    by_cases hlt : k < d.length
    · obtain ⟨a0, a1⟩ := HR.out.cell k hlt
      have HF := Aside0.mk (fold_next d k hlt)
      have hfl := fold_le d k hlt
      rcases nil_or_snoc (foldS [] (d.take k)) with hq | ⟨o, q, hq⟩
      · rw [hq] at HO HF hfl
        clear hq
        obtain ⟨A, c, rfl⟩ := Kd.R_slice HO.out
        generalize d[k] = s at a0 a1 HF
        go_wp2_with fail
        clear a0 a1
        generalize hW : wr.alloc _ = W
        obtain ⟨v0, v1, hbw⟩ := one_known hW
        have HBW := Aside0.mk hbw
        clear hW hbw
        go_quiet (fail)
        go_wp2_with (at_builtin; go_must (refine Kd.R_append k26 (w0 := w) (W := W.drewN nq) w.heap.size rfl (.tmp 47) (.tmp 49) 27 26 (.agg #[(.int .i64 0), (.int .i64 0)]) 16 rfl Try.underlying27 info26 rfl (by decide) (by omega) (.slice A ([] : List S26).length c) [] s [.int .i64 s.f0, .int .i64 s.f1] (fun k_ => k_ ≠ g) (fun _ => False) rfl rfl ?aP (fun _ hk => hk.elim) ?aF ?aO ?aB ?aS ?aL ?next))
        case aP => exact k26_mkM _ _ _ s
        case aF => exact fun k_ (hk : W.heap.size ≤ k_) => by have := HR.out.lt; have := HBW.out.size; omega
        case aO => exact Kd.R_drewN (Kd.R_below HO.out HBW.out) _
        case aB => exact pw_below_drewN (below_then HB.out HB.out.size HBW.out) _
        case aS => exact Nat.le_trans HB.out.size HBW.out.size
        case aL => simp
        case next =>
          intro v1 w4 ho hb4 hg4 hat
          have HO4 := Aside0.mk ho
          have HB4 := Aside0.mk hb4
          have HR4 := Aside0.mk (Row.move (HR.out.below (pw_below_drewN HBW.out nq)) (hg4.block g (Nat.lt_of_lt_of_le HR.out.lt HBW.out.size) (Kd.R_away HO.out (fun _ hk => hk))))
          clear ho hb4 hg4 hat
          go_wp2
          go_roundw
          case rel =>
            refine ⟨k + 1, by omega, by go_num, HB4, HR4, ⟨?_⟩⟩
            rw [HF.out]
            exact HO4.out
          case measure => simp [intOf]; omega
      · rw [hq] at HO HF hfl
        clear hq
        have hol : (o ++ [q]).length = o.length + 1 := by simp
        rw [hol] at hfl
        obtain ⟨go, capo, rfl, hgo, hro⟩ := Row.of_R HO.out (by simp)
        have hne : go ≠ g := fun e => HO.out.1 go (by simp [Value.ownBlock]) e
        rw [hol]
        have HRO := Aside0.mk hro
        rw [hol] at HO
        obtain ⟨b0, b1⟩ := hro.cell o.length (by simp)
        rw [List.getElem_concat_length rfl] at b1
        generalize d[k] = s at a0 a1 HF
        clear b0 hro hol
        cases hd : decide (s.f0 ≤ q.f1) with
        | false =>
          go_wp2_with fail
          clear a0 a1
          generalize hW : wr.alloc _ = W
          obtain ⟨v0, v1, hbw⟩ := one_known hW
          have HBW := Aside0.mk hbw
          have c1 := (blk_cell1 b1 hbw)
          clear hW hbw b1
          go_quiet (fail)
          have HD := Aside0.mk hd
          clear c1 hd
          go_wp2_with (at_builtin; go_must (refine Kd.R_append k26 (w0 := w) (W := W.drewN nq) w.heap.size rfl (.tmp 47) (.tmp 49) 27 26 (.agg #[(.int .i64 0), (.int .i64 0)]) 16 rfl Try.underlying27 info26 rfl (by decide) (by omega) (.slice (some ⟨go, 0, none⟩) (o.length + 1) capo) (o ++ [q]) s [.int .i64 s.f0, .int .i64 s.f1] (fun k_ => k_ ≠ g) (fun _ => False) rfl rfl ?aP (fun _ hk => hk.elim) ?aF ?aO ?aB ?aS ?aL ?next))
          case aP => exact k26_mkM _ _ _ s
          case aF => exact fun k_ (hk : W.heap.size ≤ k_) => by have := HR.out.lt; have := HBW.out.size; omega
          case aO => exact Kd.R_drewN (Kd.R_below HO.out HBW.out) _
          case aB => exact pw_below_drewN (below_then HB.out HB.out.size HBW.out) _
          case aS => exact Nat.le_trans HB.out.size HBW.out.size
          case aL => rw [List.length_append, List.length_singleton]; omega
          case next =>
            intro v1 w4 ho hb4 hg4 hat
            have HO4 := Aside0.mk ho
            have HB4 := Aside0.mk hb4
            have HR4 := Aside0.mk (Row.move (HR.out.below (pw_below_drewN HBW.out nq)) (hg4.block g (Nat.lt_of_lt_of_le HR.out.lt HBW.out.size) (Kd.R_away HO.out (fun _ hk => hk))))
            clear ho hb4 hg4 hat
            go_wp2
            go_roundw
            case rel =>
              refine ⟨k + 1, by omega, by go_num, HB4, HR4, ⟨?_⟩⟩
              rw [HF.out, addS_snoc, if_neg (by simpa using HD.out)]
              simpa using HO4.out
            case measure => simp [intOf]; omega
        | true =>
          go_wp2_with fail
          clear a0 a1
          generalize hW : wr.alloc _ = W
          obtain ⟨v0, v1, hbw⟩ := one_known hW
          have HBW := Aside0.mk hbw
          have c1 := (blk_cell1 b1 hbw)
          have fz := (HRO.out.below hbw).free (o.length * 2 + 1)
          clear hW hbw b1
          go_quiet (fail)
          have HD := Aside0.mk hd
          clear hd
          go_wp2_with fail
          go_region
          all_goals
            go_wp2
            go_roundw
            case rel =>
              have hbn := pw_below_drewN HBW.out (nq + 1)
              have hset := (HRO.out.below hbn).set1 o.length (by simp) (max q.f1 s.f1)
              have he : (o ++ [q]).set o.length ⟨(o ++ [q])[o.length].f0, max q.f1 s.f1⟩ = o ++ [⟨q.f0, max q.f1 s.f1⟩] := by simp
              rw [he] at hset
              have hR := hset.R (base := w.heap.size) (ok := fun k_ => k_ ≠ g) hgo hne
              have hl : (o ++ [(⟨q.f0, max q.f1 s.f1⟩ : S26)]).length = o.length + 1 := by simp
              rw [hl] at hR
              refine ⟨k + 1, by omega, by go_num, ⟨(pw_below_drewN (below_then HB.out HB.out.size HBW.out) _).setCell hgo _⟩, ⟨(HR.out.below hbn).move (Below.heap_setCell _ _ _ g (fun e => hne e.symm))⟩, ⟨?_⟩⟩
              rw [HF.out, addS_snoc, if_pos (by simpa using HD.out)]
              exact hR
            case measure => simp [intOf]; omega
    · obtain rfl : k = d.length := by omega
      rw [List.take_length, HU.out] at HO
      go_wp2
      go_ret
      exact ⟨_, rfl, Kd.R_mono HO.out (fun _ _ => trivial), HB.out⟩
theorem union_calls (A0 : Option Addr) (c0 : Nat) (l0 : List (S26)) (w : World) (hr0 : Kd.C k26 w A0 l0.length l0) (hc0 : l0.length ≤ c0) (hb : l0.length ≤ 8796093022208) :
    Calls Try.prog 14 #[.slice A0 l0.length c0] w fun e w' => ∃ v0_ : Value, e = .returned (v0_) ∧ Kd.R k26 26 w' w.heap.size (fun _ => True) v0_ (unionS l0) ∧ Below w.heap.size w w' := by
  rcases Nat.eq_zero_or_pos l0.length with h0 | h0
  · obtain rfl : l0 = [] := List.eq_nil_of_length_eq_zero h0
    exact union_none A0 c0 w hr0
  · exact union_some A0 c0 l0 w hr0 hc0 hb h0
end Go.Proofs.Ytabmablgaifidaa.PGrain
