/- The small filter's own test, gristmilllaw05.awake: it is true. No condition. -/
import Derived.Test.YtddjbhphhhdnfaaG7
import Derived.Test.YtddjbhphhhdnfaaF10
namespace Go.Proofs.Ytddjbhphhhdnfaa.K
open Go.RowKit
set_option linter.unusedVariables false
set_option linter.unusedSimpArgs false

theorem six_known {w W : World} {o0 o1 o2 o3 o4 o5 : Obj} (hW : (((((w.alloc o0).alloc o1).alloc o2).alloc o3).alloc o4).alloc o5 = W) :
    W.heap[w.heap.size]? = some o0 ∧ W.heap[w.heap.size + 1]? = some o1 ∧ W.heap[w.heap.size + 1 + 1]? = some o2 ∧ W.heap[w.heap.size + 1 + 1 + 1]? = some o3 ∧ W.heap[w.heap.size + 1 + 1 + 1 + 1]? = some o4 ∧ W.heap[w.heap.size + 1 + 1 + 1 + 1 + 1]? = some o5 ∧ Below w.heap.size w W := by
  subst hW
  refine ⟨?_, ?_, ?_, ?_, ?_, ?_, below_alloc (below_alloc (below_alloc (below_alloc (below_alloc (below_alloc (Below.refl _ w) _) _) _) _) _) _⟩
  all_goals
    simp only [World.alloc, Array.getElem?_push, Array.size_push]
    repeat rw [if_neg (by omega)]
    rw [if_pos trivial]
theorem four_known {w W : World} {o0 o1 o2 o3 : Obj} (hW : (((w.alloc o0).alloc o1).alloc o2).alloc o3 = W) :
    W.heap[w.heap.size]? = some o0 ∧ W.heap[w.heap.size + 1]? = some o1 ∧ W.heap[w.heap.size + 1 + 1]? = some o2 ∧ W.heap[w.heap.size + 1 + 1 + 1]? = some o3 ∧ Below w.heap.size w W := by
  subst hW
  refine ⟨?_, ?_, ?_, ?_, below_alloc (below_alloc (below_alloc (below_alloc (Below.refl _ w) _) _) _) _⟩
  all_goals
    simp only [World.alloc, Array.getElem?_push, Array.size_push]
    repeat rw [if_neg (by omega)]
    rw [if_pos trivial]
theorem exF_K {W : World} {B1 B2 B3 : Nat}
    (h0 : W.heap[B1]? = some (.cells #[.string txA] 9 (0, 0)))
    (h3 : W.heap[B2]? = some (.cells #[.int .i64 1, .int .i64 0, .slice none 0 0, .int .i64 0, .int .i64 0, .slice none 0 0] 25 (0, 0)))
    (h4 : W.heap[B3]? = some (.cells #[.int .i64 5, .int .i64 0, .slice (some ⟨B1, 0, none⟩) 1 1, .int .i64 0, .int .i64 0, .slice none 0 0, .int .i64 2, .int .i64 0, .slice none 0 0, .int .i64 0, .int .i64 0, .slice (some ⟨B2, 0, none⟩) 1 1] 25 (0, 0))) :
    kFilter.K W Any exF [.int .i64 4, .int .i64 0, .slice none 0 0, .int .i64 0, .int .i64 0, .slice (some ⟨B3, 0, none⟩) 2 2] := by
  have hs : Kd.string.C W Any (some ⟨B1, 0, none⟩) 1 [txA] := C_cells1 (d := Kd.string) (cs := [.string txA]) h0 ⟨rfl, by decide⟩ trivial
  have hall : kFilter.K W Any exAll [.int .i64 1, .int .i64 0, .slice none 0 0, .int .i64 0, .int .i64 0, .slice none 0 0] := kFilter_mk W Any exAll rfl rfl (nilTexts _ _) rfl rfl (nilKids _ _)
  have hallC : kFilter.C W Any (some ⟨B2, 0, none⟩) 1 [exAll] := C_cells1 (d := kFilter) h3 hall trivial
  have hna : kFilter.K W Any exNotAll [.int .i64 2, .int .i64 0, .slice none 0 0, .int .i64 0, .int .i64 0, .slice (some ⟨B2, 0, none⟩) 1 1] := kFilter_mk W Any exNotAll rfl rfl (nilTexts _ _) rfl rfl ⟨Nat.le_refl _, by simp [exNotAll], hallC⟩
  have his : kFilter.K W Any exIs [.int .i64 5, .int .i64 0, .slice (some ⟨B1, 0, none⟩) 1 1, .int .i64 0, .int .i64 0, .slice none 0 0] := kFilter_mk W Any exIs rfl rfl ⟨Nat.le_refl _, by simp [exIs], hs⟩ rfl rfl (nilKids _ _)
  have hC : kFilter.C W Any (some ⟨B3, 0, none⟩) 2 [exIs, exNotAll] := C_cells2 (d := kFilter) h4 his hna trivial
  exact kFilter_mk W Any exF rfl rfl (nilTexts _ _) rfl rfl ⟨Nat.le_refl _, by simp [exF], hC⟩
theorem exX_K {W : World} {B1 : Nat} (h0 : W.heap[B1]? = some (.cells #[.string txA] 9 (0, 0))) : kFact.K W Any exX [.int .i64 0, .slice (some ⟨B1, 0, none⟩) 1 1, .slice none 0 0] :=
  kFact_mk W Any exX rfl ⟨Nat.le_refl _, by simp [exX], C_cells1 (d := Kd.string) (cs := [.string txA]) h0 ⟨rfl, by decide⟩ trivial⟩ ⟨Nat.le_refl _, by simp [exX], Kd.C_nil' _ _ _ _⟩

theorem cells6 {w : World} {g : Nat} {t : TypeId} {a b c d e f : Value} (h : w.heap[g]? = some (.cells #[a, b, c, d, e, f] t (0, 0))) : w.cell? ⟨g, 0, none⟩ = some a ∧ w.cell? ⟨g, 1, none⟩ = some b ∧ w.cell? ⟨g, 2, none⟩ = some c ∧ w.cell? ⟨g, 3, none⟩ = some d ∧ w.cell? ⟨g, 4, none⟩ = some e ∧ w.cell? ⟨g, 5, none⟩ = some f ∧ g < w.heap.size :=
  ⟨(blk_cell h 0).trans rfl, (blk_cell h 1).trans rfl, (blk_cell h 2).trans rfl, (blk_cell h 3).trans rfl, (blk_cell h 4).trans rfl, (blk_cell h 5).trans rfl, blk_lt h⟩
theorem cells3 {w : World} {g : Nat} {t : TypeId} {a b c : Value} (h : w.heap[g]? = some (.cells #[a, b, c] t (0, 0))) : w.cell? ⟨g, 0, none⟩ = some a ∧ w.cell? ⟨g, 1, none⟩ = some b ∧ w.cell? ⟨g, 2, none⟩ = some c ∧ g < w.heap.size :=
  ⟨(blk_cell h 0).trans rfl, (blk_cell h 1).trans rfl, (blk_cell h 2).trans rfl, blk_lt h⟩
theorem open_exN {w : World} {F : Nat → Prop} {cs : List Value} (h : kFilter.K w F exN cs) : ∃ E0 f0 E1 f1, cs = [.int .i64 3, .int .i64 0, .slice E0 0 f0, .int .i64 0, .int .i64 0, .slice (some E1) 2 f1] ∧ w.cell? ⟨E1.block, E1.off + 6, none⟩ = some (.int .i64 1) := by
  obtain ⟨E0, f0, E1, f1, rfl, p0, p1, p2, p3, p4, p5⟩ := kFilter_open h
  obtain ⟨ad, G0, g0, G1, g1, hA, hF, hl, m0, _⟩ := kFilter_at p5.2.2 (Below.refl _ w) (i := 1) (by simp [exN])
  subst hA
  exact ⟨E0, f0, ad, f1, rfl, m0⟩

set_option maxHeartbeats 8000000 in
set_option maxRecDepth 100000 in
theorem awake_any (w : World) : Calls Try.prog 7 #[] w fun e w' => e = .returned (.bool true) ∧ Below w.heap.size w w' := by
  go_enter Try.func7, Try.ntmps7
  go_wp2_with fail
  generalize hW : (((((w.alloc _).alloc _).alloc _).alloc _).alloc _).alloc _ = W
  obtain ⟨b0, b1, b2, b3, b4, b5, hbel⟩ := six_known hW
  have hK := exF_K b0 b3 b4
  have HKF := Aside.mk hK
  have HBW := Aside.mk hbel
  have HF := Aside.mk b5
  clear hW b0 b1 b2 b3 b4 b5 hbel hK
  have hn := not_any exF _ W HKF.out
  rw [turn_exF] at hn
  have HN := Aside.mk hn
  clear hn
  refine HN.out.mono ?_
  rintro e w2 ⟨cs2, rfl, hK2, hb⟩
  have HK2 := Aside.mk hK2
  obtain ⟨E0, f0, E1, f1, rfl, hm⟩ := open_exN hK2
  have HM := Aside.mk hm
  have HBW2 := Aside.mk (below_self HBW.out hb)
  have HF2 := Aside.mk (blk_below HF.out hb)
  have HKF2 := Aside.mk (Kd.below HKF.out hb)
  have ha : ∀ o0 o1 o2 o3, Below w2.heap.size w2 ((((w2.alloc o0).alloc o1).alloc o2).alloc o3) := fun o0 o1 o2 o3 => below_alloc (below_alloc (below_alloc (below_alloc (Below.refl _ w2) _) _) _) _
  have i0 := fun o0 o1 o2 o3 => (blk_cell (blk_below HF2.out (ha o0 o1 o2 o3)) 0).trans rfl
  have i1 := fun o0 o1 o2 o3 => (blk_cell (blk_below HF2.out (ha o0 o1 o2 o3)) 1).trans rfl
  have i2 := fun o0 o1 o2 o3 => (blk_cell (blk_below HF2.out (ha o0 o1 o2 o3)) 2).trans rfl
  have i3 := fun o0 o1 o2 o3 => (blk_cell (blk_below HF2.out (ha o0 o1 o2 o3)) 3).trans rfl
  have i4 := fun o0 o1 o2 o3 => (blk_cell (blk_below HF2.out (ha o0 o1 o2 o3)) 4).trans rfl
  have i5 := fun o0 o1 o2 o3 => (blk_cell (blk_below HF2.out (ha o0 o1 o2 o3)) 5).trans rfl
  clear hm hK2 hb HN ha
  go_wp2_with fail
  clear i0 i1 i2 i3 i4 i5
  generalize hW3 : (((w2.alloc _).alloc _).alloc _).alloc _ = w3
  obtain ⟨d0, d1, d2, d3, hbel⟩ := four_known hW3
  have HX := Aside.mk (exX_K d1)
  have HKN := Aside.mk (Kd.below HK2.out hbel)
  have HKF := Aside.mk (Kd.below HKF2.out hbel)
  have HF3 := Aside.mk (blk_below HF2.out hbel)
  have HN3 := Aside.mk d0
  have HX3 := Aside.mk d2
  have HBW3 := Aside.mk (below_self HBW2.out hbel)
  have hbelm := hbel
  clear hW3 d0 d1 d2 d3 hbel HKF2 HF2 HBW2 HBW HK2
  have HM3 := Aside.mk ((hbelm.cell (World.block_lt_of_cell? w2 _ HM.out)).trans HM.out)
  have HB3 := Aside.mk (Below.refl w3.heap.size w3)
  have hc := check_any 1 0 exF _ w3 (Kd.below HKF.out HB3.out)
  rw [ok_exF] at hc
  refine hc.mono ?_
  rintro e w4 ⟨rfl, hb⟩
  have HB4 := Aside.mk (below_self HB3.out hb)
  obtain ⟨i0, i1, i2, i3, i4, i5, hlt⟩ := cells6 (blk_below HF3.out HB4.out)
  obtain ⟨j0, j1, j2, j3, j4, j5, hlt2⟩ := cells6 (blk_below HN3.out HB4.out)
  obtain ⟨l0, l1, l2, hlt3⟩ := cells3 (blk_below HX3.out HB4.out)
  have m0 := (HB4.out.cell (World.block_lt_of_cell? w3 _ HM3.out)).trans HM3.out
  clear hb hc
  go_wp2_with fail
  clear i0 i1 i2 i3 i4 i5 hlt j0 j1 j2 j3 j4 j5 hlt2 l0 l1 l2 hlt3 m0
  have hc := check_any 0 0 exF _ w4 (Kd.below HKF.out HB4.out)
  rw [ok_exF0] at hc
  refine hc.mono ?_
  rintro e w5 ⟨rfl, hb⟩
  have HB5 := Aside.mk (below_self HB4.out hb)
  obtain ⟨i0, i1, i2, i3, i4, i5, hlt⟩ := cells6 (blk_below HF3.out HB5.out)
  obtain ⟨j0, j1, j2, j3, j4, j5, hlt2⟩ := cells6 (blk_below HN3.out HB5.out)
  obtain ⟨l0, l1, l2, hlt3⟩ := cells3 (blk_below HX3.out HB5.out)
  have m0 := (HB5.out.cell (World.block_lt_of_cell? w3 _ HM3.out)).trans HM3.out
  clear hb hc
  go_wp2_with fail
  clear i0 i1 i2 i3 i4 i5 hlt j0 j1 j2 j3 j4 j5 hlt2 l0 l1 l2 hlt3 m0
  have hc := holds_any exX _ exF (Nat.le_refl _) _ _ w5 (Kd.below (Kd.any HKF.out) HB5.out) (Kd.below HX.out HB5.out)
  rw [holds_exF] at hc
  refine hc.mono ?_
  rintro e w6 ⟨rfl, hb⟩
  have HB6 := Aside.mk (below_self HB5.out hb)
  obtain ⟨i0, i1, i2, i3, i4, i5, hlt⟩ := cells6 (blk_below HF3.out HB6.out)
  obtain ⟨j0, j1, j2, j3, j4, j5, hlt2⟩ := cells6 (blk_below HN3.out HB6.out)
  obtain ⟨l0, l1, l2, hlt3⟩ := cells3 (blk_below HX3.out HB6.out)
  have m0 := (HB6.out.cell (World.block_lt_of_cell? w3 _ HM3.out)).trans HM3.out
  clear hb hc
  go_wp2_with fail
  clear i0 i1 i2 i3 i4 i5 hlt j0 j1 j2 j3 j4 j5 hlt2 l0 l1 l2 hlt3 m0
  have hc := holds_any exX _ exN (Nat.le_refl _) _ _ w6 (Kd.below (Kd.any HKN.out) HB6.out) (Kd.below HX.out HB6.out)
  rw [holds_exN] at hc
  refine hc.mono ?_
  rintro e w7 ⟨rfl, hb⟩
  have HB7 := Aside.mk (below_self HB6.out hb)
  obtain ⟨i0, i1, i2, i3, i4, i5, hlt⟩ := cells6 (blk_below HF3.out HB7.out)
  obtain ⟨j0, j1, j2, j3, j4, j5, hlt2⟩ := cells6 (blk_below HN3.out HB7.out)
  obtain ⟨l0, l1, l2, hlt3⟩ := cells3 (blk_below HX3.out HB7.out)
  have m0 := (HB7.out.cell (World.block_lt_of_cell? w3 _ HM3.out)).trans HM3.out
  clear hb hc
  go_wp2_with fail
  clear i0 i1 i2 i3 i4 i5 hlt j0 j1 j2 j3 j4 j5 hlt2 l0 l1 l2 hlt3 m0
  have hc := size_any exF _ w7 (Kd.below HKF.out HB7.out)
  rw [sizeF_exF] at hc
  refine hc.mono ?_
  rintro e w8 ⟨rfl, hb⟩
  have HB8 := Aside.mk (below_self HB7.out hb)
  obtain ⟨i0, i1, i2, i3, i4, i5, hlt⟩ := cells6 (blk_below HF3.out HB8.out)
  obtain ⟨j0, j1, j2, j3, j4, j5, hlt2⟩ := cells6 (blk_below HN3.out HB8.out)
  obtain ⟨l0, l1, l2, hlt3⟩ := cells3 (blk_below HX3.out HB8.out)
  have m0 := (HB8.out.cell (World.block_lt_of_cell? w3 _ HM3.out)).trans HM3.out
  clear hb hc
  go_wp2_with fail
  go_ret
  exact ⟨rfl, below_self HBW3.out HB8.out⟩
end Go.Proofs.Ytddjbhphhhdnfaa.K
