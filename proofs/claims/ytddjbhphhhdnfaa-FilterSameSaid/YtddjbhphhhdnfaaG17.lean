/- The contract of gristmillref05.Same: no condition. -/
import Derived.Test.YtddjbhphhhdnfaaG16
namespace Go.Proofs.Ytddjbhphhhdnfaa.K
open Go.RowKit
set_option linter.unusedVariables false
set_option linter.unusedSimpArgs false

set_option maxHeartbeats 8000000 in
set_option maxRecDepth 100000 in
theorem refSame_kids (x y : Filter) (cs ds : List Value) (w : World) (h : kFilter.K w Any x cs) (h2 : kFilter.K w Any y ds) (hk : x.Kind = y.Kind) (k : ¬ (x.Kind = 5 ∨ x.Kind = 6 ∨ x.Kind = 7)) (k8 : ¬ x.Kind = 8) (ih : RefSameAt (kidsOf x)) :
    Calls Try.prog 17 #[.agg cs.toArray, .agg ds.toArray] w fun e w' => e = .returned (.bool (sameF x y)) ∧ Below w.heap.size w w' := by
  have HKX := Aside.mk (fun (W : World) (hb : Below w.heap.size w W) => refKids_any x _ W Any (Kd.below h hb))
  have HKY := Aside.mk (fun (W : World) (hb : Below w.heap.size w W) => refKids_any y _ W Any (Kd.below h2 hb))
  obtain ⟨A0, c0, A1, c1, rfl, q0, q1, q2, q3, q4, q5⟩ := kFilter_open h
  obtain ⟨C0, e0, C1, e1, rfl, s0, s1, s2, s3, s4, s5⟩ := kFilter_open h2
  have HR := Aside.mk (same_kids hk k k8)
  have HIH := Aside.mk ih
  have hkb : (x.Kind == y.Kind) = true := by simpa using hk
  have k5b : (x.Kind == 5) = false := by simp; omega
  have k6b : (x.Kind == 6) = false := by simp; omega
  have k7b : (x.Kind == 7) = false := by simp; omega
  have k8b : (x.Kind == 8) = false := by simp; omega
  clear h h2 q0 q1 q2 q3 q4 q5 s0 s1 s2 s3 s4 s5 k k8 ih hk
  generalize hr : sameF x y = r at HR ⊢
  clear hr
  go_enter Try.func17, Try.ntmps17
  go_wp2_with fail
  generalize hW : (w.alloc _).alloc _ = W
  obtain ⟨b1, b2, hbel⟩ := two_known hW
  have HP1 := Aside.mk b1
  have HP2 := Aside.mk b2
  have HBW := Aside.mk hbel
  clear hW b1 b2 hbel
  refine (HKX.out _ HBW.out).mono ?_
  rintro e w3 ⟨A, c, rfl, _, hC, hb⟩
  have HCX := Aside.mk hC
  have HI3 := Aside.mk hb
  have hn := hC.2.1
  clear hC hb
  obtain ⟨i0, i1, i2, i3, i4, i5⟩ := blk6 HP1.out HI3.out
  obtain ⟨j0, j1, j2, j3, j4, j5⟩ := blk6 HP2.out HI3.out
  go_wp2_with fail
  refine (HKY.out _ (below_self HBW.out HI3.out)).mono ?_
  rintro e w4 ⟨A', d, rfl, _, hC, hb⟩
  have HCY := Aside.mk hC
  have HCX := Aside.mk (Kd.C_below HCX.out hb)
  have HI4 := Aside.mk (below_self HI3.out hb)
  have HB4 := Aside.mk (below_self HBW.out HI4.out)
  have hm := hC.2.1
  clear hC hb i0 i1 i2 i3 i4 i5 j0 j1 j2 j3 j4 j5 hkb k5b k6b k7b k8b
  by_cases hlen : (kidsOf x).length = (kidsOf y).length
  · have HLEN := Aside.mk hlen
    rw [← hlen]
    clear hlen hm
    go_wp2
    go_loopw [8, 9] (fun i z wr => ∃ n : Nat, n ≤ (kidsOf x).length ∧ i = .int .i64 n ∧ Aside (Below w4.heap.size w4 wr) ∧ Aside (∀ j (hj : j < n) (hx : j < (kidsOf x).length) (hy : j < (kidsOf y).length), sameF (kidsOf x)[j] (kidsOf y)[j] = true)) (fun i z _ => (kidsOf x).length - (intOf i).toNat)
    case atStart => exact ⟨0, Nat.zero_le _, rfl, ⟨Below.refl _ _⟩, ⟨fun j hj => absurd hj (Nat.not_lt_zero _)⟩⟩
    case round =>
      obtain ⟨n, hnn, rfl, HBR, HALL⟩ := hrel
      have HB0 := Aside.mk (below_self HB4.out HBR.out)
      by_cases hlt : n < (kidsOf x).length
      · have hni : (n : Int) < ((kidsOf x).length : Int) := by omega
        have hly : n < (kidsOf y).length := by rw [← HLEN.out]; exact hlt
        obtain ⟨ad, E0, f0, E1, f1, hA, hFF, hla, m0, m1, m2, m3, m4, m5, hK⟩ := kFilter_at HCX.out HBR.out hlt
        subst hA
        obtain ⟨bd, G0, g0, G1, g1, hA2, hFF2, hla2, n0, n1, n2, n3, n4, n5, hK2⟩ := kFilter_at HCY.out HBR.out hly
        subst hA2
        have HLY := Aside.mk hly
        have HM := Aside.mk (And.intro m0 (And.intro m1 (And.intro m2 (And.intro m3 (And.intro m4 (And.intro m5 (And.intro n0 (And.intro n1 (And.intro n2 (And.intro n3 (And.intro n4 n5)))))))))))
        have HLA := Aside.mk (And.intro (Nat.lt_of_lt_of_le hla HBR.out.size) (Nat.lt_of_lt_of_le hla2 HBR.out.size))
        have hcl : ∀ W', Aside (Below wr.heap.size wr W') → (fun W => W.cell? (ad.add (n * 6)) = some (.int .i64 (kidsOf x)[n].Kind) ∧ W.cell? ⟨(ad.add (n * 6)).block, (ad.add (n * 6)).off + 1, none⟩ = some (.int .i64 (kidsOf x)[n].Dim) ∧ W.cell? ⟨(ad.add (n * 6)).block, (ad.add (n * 6)).off + 2, none⟩ = some (.slice E0 (kidsOf x)[n].Texts.length f0) ∧ W.cell? ⟨(ad.add (n * 6)).block, (ad.add (n * 6)).off + 3, none⟩ = some (.int .i64 (kidsOf x)[n].Lo) ∧ W.cell? ⟨(ad.add (n * 6)).block, (ad.add (n * 6)).off + 4, none⟩ = some (.int .i64 (kidsOf x)[n].Hi) ∧ W.cell? ⟨(ad.add (n * 6)).block, (ad.add (n * 6)).off + 5, none⟩ = some (.slice E1 (kidsOf x)[n].Kids.length f1) ∧ W.cell? (bd.add (n * 6)) = some (.int .i64 (kidsOf y)[n].Kind) ∧ W.cell? ⟨(bd.add (n * 6)).block, (bd.add (n * 6)).off + 1, none⟩ = some (.int .i64 (kidsOf y)[n].Dim) ∧ W.cell? ⟨(bd.add (n * 6)).block, (bd.add (n * 6)).off + 2, none⟩ = some (.slice G0 (kidsOf y)[n].Texts.length g0) ∧ W.cell? ⟨(bd.add (n * 6)).block, (bd.add (n * 6)).off + 3, none⟩ = some (.int .i64 (kidsOf y)[n].Lo) ∧ W.cell? ⟨(bd.add (n * 6)).block, (bd.add (n * 6)).off + 4, none⟩ = some (.int .i64 (kidsOf y)[n].Hi) ∧ W.cell? ⟨(bd.add (n * 6)).block, (bd.add (n * 6)).off + 5, none⟩ = some (.slice G1 (kidsOf y)[n].Kids.length g1)) W' := fun W' I => by
          obtain ⟨m0, m1, m2, m3, m4, m5, n0, n1, n2, n3, n4, n5⟩ := HM.out
          exact ⟨(I.out.cell (World.block_lt_of_cell? wr _ m0)).trans m0, (I.out.cell (World.block_lt_of_cell? wr _ m1)).trans m1, (I.out.cell (World.block_lt_of_cell? wr _ m2)).trans m2, (I.out.cell (World.block_lt_of_cell? wr _ m3)).trans m3, (I.out.cell (World.block_lt_of_cell? wr _ m4)).trans m4, (I.out.cell (World.block_lt_of_cell? wr _ m5)).trans m5, (I.out.cell (World.block_lt_of_cell? wr _ n0)).trans n0, (I.out.cell (World.block_lt_of_cell? wr _ n1)).trans n1, (I.out.cell (World.block_lt_of_cell? wr _ n2)).trans n2, (I.out.cell (World.block_lt_of_cell? wr _ n3)).trans n3, (I.out.cell (World.block_lt_of_cell? wr _ n4)).trans n4, (I.out.cell (World.block_lt_of_cell? wr _ n5)).trans n5⟩
        have HI := Aside.mk (fun W' (I : Below wr.heap.size wr W') => HIH.out (kidsOf x)[n] (List.getElem_mem hlt) (kidsOf y)[n] _ _ W' (Kd.below hK (below_self HBR.out I)) (Kd.below hK2 (below_self HBR.out I)))
        have HI5 := Aside.mk (Below.refl wr.heap.size wr).drew
        clear hK hK2 hFF hFF2 hla hla2 m0 m1 m2 m3 m4 m5 n0 n1 n2 n3 n4 n5
        by_cases hv : sameF (kidsOf x)[n] (kidsOf y)[n] = true
        · rw [hv] at HI
          have HV := Aside.mk hv
          clear hv
          go_wp2_with fail
          go_region_held3 (fun W => W.cell? (ad.add (n * 6)) = some (.int .i64 (kidsOf x)[n].Kind) ∧ W.cell? ⟨(ad.add (n * 6)).block, (ad.add (n * 6)).off + 1, none⟩ = some (.int .i64 (kidsOf x)[n].Dim) ∧ W.cell? ⟨(ad.add (n * 6)).block, (ad.add (n * 6)).off + 2, none⟩ = some (.slice E0 (kidsOf x)[n].Texts.length f0) ∧ W.cell? ⟨(ad.add (n * 6)).block, (ad.add (n * 6)).off + 3, none⟩ = some (.int .i64 (kidsOf x)[n].Lo) ∧ W.cell? ⟨(ad.add (n * 6)).block, (ad.add (n * 6)).off + 4, none⟩ = some (.int .i64 (kidsOf x)[n].Hi) ∧ W.cell? ⟨(ad.add (n * 6)).block, (ad.add (n * 6)).off + 5, none⟩ = some (.slice E1 (kidsOf x)[n].Kids.length f1) ∧ W.cell? (bd.add (n * 6)) = some (.int .i64 (kidsOf y)[n].Kind) ∧ W.cell? ⟨(bd.add (n * 6)).block, (bd.add (n * 6)).off + 1, none⟩ = some (.int .i64 (kidsOf y)[n].Dim) ∧ W.cell? ⟨(bd.add (n * 6)).block, (bd.add (n * 6)).off + 2, none⟩ = some (.slice G0 (kidsOf y)[n].Texts.length g0) ∧ W.cell? ⟨(bd.add (n * 6)).block, (bd.add (n * 6)).off + 3, none⟩ = some (.int .i64 (kidsOf y)[n].Lo) ∧ W.cell? ⟨(bd.add (n * 6)).block, (bd.add (n * 6)).off + 4, none⟩ = some (.int .i64 (kidsOf y)[n].Hi) ∧ W.cell? ⟨(bd.add (n * 6)).block, (bd.add (n * 6)).off + 5, none⟩ = some (.slice G1 (kidsOf y)[n].Kids.length g1)) (exact hcl _ (by assumption)) (first | (go_at_call 17; refine (HI.out _ HI5.out).mono ?_; rintro e w6 ⟨rfl, hb⟩; have HI6 := Aside.mk (below_self HI5.out hb); clear hb))
          all_goals
            go_wp2
            go_roundw
            case rel =>
              refine ⟨n + 1, by omega, by go_num, ⟨below_self HBR.out HI6.out⟩, ⟨fun j hj hx hy => ?_⟩⟩
              rcases Nat.lt_or_ge j n with h1 | h1
              · exact HALL.out j h1 hx hy
              · obtain rfl : j = n := by omega
                exact HV.out
            case measure => simp [intOf]; omega
        · have hv0 : sameF (kidsOf x)[n] (kidsOf y)[n] = false := by simpa using hv
          rw [hv0] at HI
          have HV := Aside.mk hv0
          clear hv hv0
          go_wp2_with fail
          go_region_held3 (fun W => W.cell? (ad.add (n * 6)) = some (.int .i64 (kidsOf x)[n].Kind) ∧ W.cell? ⟨(ad.add (n * 6)).block, (ad.add (n * 6)).off + 1, none⟩ = some (.int .i64 (kidsOf x)[n].Dim) ∧ W.cell? ⟨(ad.add (n * 6)).block, (ad.add (n * 6)).off + 2, none⟩ = some (.slice E0 (kidsOf x)[n].Texts.length f0) ∧ W.cell? ⟨(ad.add (n * 6)).block, (ad.add (n * 6)).off + 3, none⟩ = some (.int .i64 (kidsOf x)[n].Lo) ∧ W.cell? ⟨(ad.add (n * 6)).block, (ad.add (n * 6)).off + 4, none⟩ = some (.int .i64 (kidsOf x)[n].Hi) ∧ W.cell? ⟨(ad.add (n * 6)).block, (ad.add (n * 6)).off + 5, none⟩ = some (.slice E1 (kidsOf x)[n].Kids.length f1) ∧ W.cell? (bd.add (n * 6)) = some (.int .i64 (kidsOf y)[n].Kind) ∧ W.cell? ⟨(bd.add (n * 6)).block, (bd.add (n * 6)).off + 1, none⟩ = some (.int .i64 (kidsOf y)[n].Dim) ∧ W.cell? ⟨(bd.add (n * 6)).block, (bd.add (n * 6)).off + 2, none⟩ = some (.slice G0 (kidsOf y)[n].Texts.length g0) ∧ W.cell? ⟨(bd.add (n * 6)).block, (bd.add (n * 6)).off + 3, none⟩ = some (.int .i64 (kidsOf y)[n].Lo) ∧ W.cell? ⟨(bd.add (n * 6)).block, (bd.add (n * 6)).off + 4, none⟩ = some (.int .i64 (kidsOf y)[n].Hi) ∧ W.cell? ⟨(bd.add (n * 6)).block, (bd.add (n * 6)).off + 5, none⟩ = some (.slice G1 (kidsOf y)[n].Kids.length g1)) (exact hcl _ (by assumption)) (first | (go_at_call 17; refine (HI.out _ HI5.out).mono ?_; rintro e w6 ⟨rfl, hb⟩; have HI6 := Aside.mk (below_self HI5.out hb); clear hb))
          all_goals
            go_wp2
            go_ret
            exact ⟨ret_bool (HR.out.trans (zipAll_no hlt HLY.out HV.out)).symm, below_self HB0.out HI6.out⟩
      · have hni : ¬ (n : Int) < ((kidsOf x).length : Int) := by omega
        go_wp2
        go_ret
        exact ⟨ret_bool (HR.out.trans (zipAll_yes HLEN.out (fun j hx hy => HALL.out j (by omega) hx hy))).symm, HB0.out⟩
  · have hlb : (((kidsOf x).length : Int) == ((kidsOf y).length : Int)) = false := by simp; omega
    have hne : ¬ ((kidsOf x).length : Int) = ((kidsOf y).length : Int) := by omega
    have HLN := Aside.mk hlen
    clear hlen
    go_wp2
    go_ret
    exact ⟨ret_bool (HR.out.trans (zipAll_len HLN.out)).symm, HB4.out⟩
theorem refSame_any : ∀ n x, ht x ≤ n → ∀ (y : Filter) cs ds w, kFilter.K w Any x cs → kFilter.K w Any y ds →
    Calls Try.prog 17 #[.agg cs.toArray, .agg ds.toArray] w fun e w' => e = .returned (.bool (sameF x y)) ∧ Below w.heap.size w w' := by
  intro n
  induction n with
  | zero => intro x hx; rw [ht_eq] at hx; omega
  | succ n ih =>
    intro x hx y cs ds w h h2
    have hih : RefSameAt (kidsOf x) := fun k hk y cs ds W hK hK2 => ih k (by have := ht_kid hk; omega) y cs ds W hK hK2
    by_cases hk : x.Kind = y.Kind
    · by_cases k : x.Kind = 5 ∨ x.Kind = 6 ∨ x.Kind = 7
      · exact refSame_567 x y cs ds w h h2 hk k
      · by_cases k8 : x.Kind = 8
        · exact refSame_8 x y cs ds w h h2 hk k8
        · exact refSame_kids x y cs ds w h h2 hk k k8 hih
    · exact refSame_ne x y cs ds w h h2 hk
end Go.Proofs.Ytddjbhphhhdnfaa.K
