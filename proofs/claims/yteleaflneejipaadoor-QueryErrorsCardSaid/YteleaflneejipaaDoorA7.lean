/- awake by a contract: it tells true where the listed variable holds what it holds. -/
import Derived.Test.YteleaflneejipaaDoorA1
import Derived.Test.YteleaflneejipaaDoorA2
import Derived.Test.YteleaflneejipaaDoorA6
import Derived.Test.YteleaflneejipaaDoorPQx1
namespace Go.Proofs.YteleaflneejipaaDoor
open Go.RowKit Go.Proofs.YteleaflneejipaaDoorW.PrintWords Go.Proofs.YteleaflneejipaaDoorW.PrintLast Go.Proofs.YteleaflneejipaaDoorW.PrintMore
set_option linter.unusedVariables false

def HandleAt (w : World) : Prop := w.cell? ⟨0, 0, none⟩ = some (.iface 106 (.agg #[.pointer (some ⟨4, 42, none⟩)]))
theorem HandleAt.lt {w : World} (h : HandleAt w) : 0 < w.heap.size := by
  rcases Nat.eq_zero_or_pos w.heap.size with h0 | h0
  · simp [HandleAt, World.cell?, h0] at h
  · exact h0
theorem HandleAt.below {w w' : World} (h : HandleAt w) (hb : Below w.heap.size w w') : HandleAt w' := (hb.cell h.lt).trans h
theorem one_set {w : World} {b b2 c2 : Nat} (h : w.cell? ⟨b, 0, none⟩ = some (.slice (some ⟨b2, 0, none⟩) 0 c2)) : Kd.C (Kd.slice 3 (Kd.int .i64)) w (some ⟨b, 0, none⟩) ([[]] : List (List Int)).length [[]] := by
  refine ⟨rfl, by decide, fun _ => ⟨_, rfl, fun j p hj => ?_⟩⟩
  rcases j with _ | j
  · obtain rfl : [] = p := by simpa using hj
    refine ⟨[.slice (some ⟨b2, 0, none⟩) 0 c2], rfl, ⟨_, _, rfl, Nat.zero_le _, ⟨rfl, by decide, fun h0 => absurd h0 (by decide)⟩⟩, fun i u hi => ?_⟩
    rcases i with _ | i
    · obtain rfl := Option.some.inj hi
      exact h
    · simp at hi
  · simp at hj
theorem two_ints {w : World} {b : Nat} {x y : Int} (h : w.cell? ⟨b, 0, none⟩ = some (.int .i64 x)) (h1 : w.cell? ⟨b, 1, none⟩ = some (.int .i64 y)) : Kd.C (Kd.int .i64) w (some ⟨b, 0, none⟩) ([x, y] : List Int).length [x, y] := by
  refine ⟨rfl, by simp, fun _ => ⟨_, rfl, fun j p hj => ?_⟩⟩
  rcases j with _ | _ | j
  · obtain rfl : x = p := by simpa using hj
    refine ⟨[.int .i64 x], rfl, rfl, fun i u hi => ?_⟩
    rcases i with _ | i
    · obtain rfl := Option.some.inj hi
      exact h
    · simp at hi
  · obtain rfl : y = p := by simpa using hj
    refine ⟨[.int .i64 y], rfl, rfl, fun i u hi => ?_⟩
    rcases i with _ | i
    · obtain rfl := Option.some.inj hi
      exact h1
    · simp at hi
  · simp at hj
theorem cube_02 : PQ.query_Cube.f 40 [0, 2] = some [[0, 2], [0], [2], []] := by kernel_rfl
theorem sets_one (d : Int) : SetsFit d [[]] := fun l hl => by
  obtain rfl := List.mem_singleton.1 hl
  exact ⟨by simp, fun i hi => absurd hi (Nat.not_lt_zero _)⟩
set_option maxHeartbeats 8000000 in
set_option maxRecDepth 100000 in
theorem awake_at (w : World) (hg : HandleAt w) : Calls Tryd.prog 6 #[] w fun e w' => e = .returned (.bool true) ∧ Below w.heap.size w w' := by
  have HH := Aside0.mk hg
  clear hg
  go_enter Tryd.func6, Tryd.ntmps6
  go_wp2_with fail
  refine (check_none 0 0 none 0 (w.alloc (.cells (qCells (.slice none 0 0)) 40)) (by decide) (by decide)).mono ?_
  rintro e w1 ⟨g, rfl, hge, hgb, hb⟩
  have HB1 := Aside0.mk (below_step (below_alloc (Below.refl w.heap.size w) _) hb)
  have HP1 := Aside0.mk (blk_below (blk_new w (.cells (qCells (.slice none 0 0)) 40)) hb)
  have HG1 := Aside0.mk hgb
  have hglt := blk_lt hgb
  have hplt : w.heap.size < w1.heap.size := by have := hb.size; simp at this; omega
  have hgne : g ≠ w.heap.size := by simp at hge; omega
  clear hb hgb hge
  go_wp2_with fail
  refine (is_wrong _ _).mono ?_
  rintro e w2 ⟨rfl, rfl⟩
  have HgA := Aside0.mk (HandleAt.below HH.out (below_alloc HB1.out (.cells #[.pointer none] 45)))
  have HtA := Aside0.mk (show (w1.alloc (.cells #[.pointer none] 45)).cell? ⟨w1.heap.size, 0, none⟩ = some (.pointer none) from (blk_cell (blk_new _ _) 0).trans rfl)
  have HfA := Aside0.mk (show (w1.alloc (.cells #[.pointer none] 45)).frozen? ⟨w1.heap.size, 0, none⟩ = false from blk_frozen (blk_new _ _) 0)
  go_wp2_with fail
  refine (as_hit _ _ (.pointer none) _ HgA.out HtA.out HfA.out).mono ?_
  rintro e w2 ⟨rfl, hw2⟩
  have HB2 : Below w.heap.size w w2 := by
    rw [hw2]
    exact below_set (below_alloc (below_alloc (below_alloc (below_alloc (below_alloc HB1.out _) _) _) _) _) (Nat.le_of_lt hplt)
  have HP2 : w2.heap[w.heap.size]? = some (.cells (qCells (.slice none 0 0)) 40 (0, 0)) := by
    rw [hw2]
    exact blk_far (blk_alloc (blk_alloc (blk_alloc (blk_alloc (blk_alloc HP1.out _) _) _) _) _) (by show w.heap.size ≠ w1.heap.size; omega) _
  have HG2 : w2.heap[g]? = some (.cells #[.string ⟨#[115, 101, 116, 115]⟩, .int .i64 0] 47 (0, 0)) := by
    rw [hw2]
    exact blk_far (blk_alloc (blk_alloc (blk_alloc (blk_alloc (blk_alloc HG1.out _) _) _) _) _) (by show g ≠ w1.heap.size; omega) _
  have HT2 : w2.heap[w1.heap.size]? = some (.cells #[.pointer (some ⟨g, 0, none⟩)] 45 (0, 0)) := by
    rw [hw2]
    exact blk_put (blk_alloc (blk_alloc (blk_alloc (blk_alloc (blk_new w1 (.cells #[.pointer none] 45)) _) _) _) _) 0 _ rfl
  have HB2 := Aside0.mk HB2
  have HP2 := Aside0.mk HP2
  have HG2 := Aside0.mk HG2
  have HT2 := Aside0.mk HT2
  clear hw2 HgA HtA HfA HP1 HG1 HB1 hglt
  have hpw2 : w.heap.size < w2.heap.size := blk_lt HP2.out
  have v0 : ((w2.alloc (.cells #[] 3)).alloc (.cells #[.slice (some ⟨w2.heap.size, 0, none⟩) 0 0] 22)).cell? ⟨w.heap.size, 9, none⟩ = some (.slice none 0 0) := (blk_cell (blk_alloc (blk_alloc HP2.out _) _) 9).trans rfl
  have v1 : ((w2.alloc (.cells #[] 3)).alloc (.cells #[.slice (some ⟨w2.heap.size, 0, none⟩) 0 0] 22)).frozen? ⟨w.heap.size, 9, none⟩ = false := blk_frozen (blk_alloc (blk_alloc HP2.out _) _) 9
  have HPV : (((w2.alloc (.cells #[] 3)).alloc (.cells #[.slice (some ⟨w2.heap.size, 0, none⟩) 0 0] 22)).setCell ⟨w.heap.size, 9, none⟩ (.slice (some ⟨w2.heap.size + 1, 0, none⟩) 1 1)).heap[w.heap.size]? = some (.cells (qCells (.slice (some ⟨w2.heap.size + 1, 0, none⟩) 1 1)) 40 (0, 0)) := blk_put (blk_alloc (blk_alloc HP2.out _) _) 9 _ rfl
  have c0 : (((w2.alloc (.cells #[] 3)).alloc (.cells #[.slice (some ⟨w2.heap.size, 0, none⟩) 0 0] 22)).setCell ⟨w.heap.size, 9, none⟩ (.slice (some ⟨w2.heap.size + 1, 0, none⟩) 1 1)).cell? ⟨w.heap.size, 0, none⟩ = some (.int .i64 0) := (blk_cell HPV 0).trans rfl
  have c1 : (((w2.alloc (.cells #[] 3)).alloc (.cells #[.slice (some ⟨w2.heap.size, 0, none⟩) 0 0] 22)).setCell ⟨w.heap.size, 9, none⟩ (.slice (some ⟨w2.heap.size + 1, 0, none⟩) 1 1)).cell? ⟨w.heap.size, 1, none⟩ = some (.int .i64 0) := (blk_cell HPV 1).trans rfl
  have c2 : (((w2.alloc (.cells #[] 3)).alloc (.cells #[.slice (some ⟨w2.heap.size, 0, none⟩) 0 0] 22)).setCell ⟨w.heap.size, 9, none⟩ (.slice (some ⟨w2.heap.size + 1, 0, none⟩) 1 1)).cell? ⟨w.heap.size, 2, none⟩ = some (.int .i64 1) := (blk_cell HPV 2).trans rfl
  have c3 : (((w2.alloc (.cells #[] 3)).alloc (.cells #[.slice (some ⟨w2.heap.size, 0, none⟩) 0 0] 22)).setCell ⟨w.heap.size, 9, none⟩ (.slice (some ⟨w2.heap.size + 1, 0, none⟩) 1 1)).cell? ⟨w.heap.size, 3, none⟩ = some (.int .i64 0) := (blk_cell HPV 3).trans rfl
  have c4 : (((w2.alloc (.cells #[] 3)).alloc (.cells #[.slice (some ⟨w2.heap.size, 0, none⟩) 0 0] 22)).setCell ⟨w.heap.size, 9, none⟩ (.slice (some ⟨w2.heap.size + 1, 0, none⟩) 1 1)).cell? ⟨w.heap.size, 4, none⟩ = some (.slice none 0 0) := (blk_cell HPV 4).trans rfl
  have c5 : (((w2.alloc (.cells #[] 3)).alloc (.cells #[.slice (some ⟨w2.heap.size, 0, none⟩) 0 0] 22)).setCell ⟨w.heap.size, 9, none⟩ (.slice (some ⟨w2.heap.size + 1, 0, none⟩) 1 1)).cell? ⟨w.heap.size, 5, none⟩ = some (.int .i64 0) := (blk_cell HPV 5).trans rfl
  have c6 : (((w2.alloc (.cells #[] 3)).alloc (.cells #[.slice (some ⟨w2.heap.size, 0, none⟩) 0 0] 22)).setCell ⟨w.heap.size, 9, none⟩ (.slice (some ⟨w2.heap.size + 1, 0, none⟩) 1 1)).cell? ⟨w.heap.size, 6, none⟩ = some (.int .i64 0) := (blk_cell HPV 6).trans rfl
  have c7 : (((w2.alloc (.cells #[] 3)).alloc (.cells #[.slice (some ⟨w2.heap.size, 0, none⟩) 0 0] 22)).setCell ⟨w.heap.size, 9, none⟩ (.slice (some ⟨w2.heap.size + 1, 0, none⟩) 1 1)).cell? ⟨w.heap.size, 7, none⟩ = some (.slice none 0 0) := (blk_cell HPV 7).trans rfl
  have c8 : (((w2.alloc (.cells #[] 3)).alloc (.cells #[.slice (some ⟨w2.heap.size, 0, none⟩) 0 0] 22)).setCell ⟨w.heap.size, 9, none⟩ (.slice (some ⟨w2.heap.size + 1, 0, none⟩) 1 1)).cell? ⟨w.heap.size, 8, none⟩ = some (.int .i64 0) := (blk_cell HPV 8).trans rfl
  have c9 : (((w2.alloc (.cells #[] 3)).alloc (.cells #[.slice (some ⟨w2.heap.size, 0, none⟩) 0 0] 22)).setCell ⟨w.heap.size, 9, none⟩ (.slice (some ⟨w2.heap.size + 1, 0, none⟩) 1 1)).cell? ⟨w.heap.size, 9, none⟩ = some (.slice (some ⟨w2.heap.size + 1, 0, none⟩) 1 1) := (blk_cell HPV 9).trans rfl
  have c10 : (((w2.alloc (.cells #[] 3)).alloc (.cells #[.slice (some ⟨w2.heap.size, 0, none⟩) 0 0] 22)).setCell ⟨w.heap.size, 9, none⟩ (.slice (some ⟨w2.heap.size + 1, 0, none⟩) 1 1)).cell? ⟨w.heap.size, 10, none⟩ = some (.slice none 0 0) := (blk_cell HPV 10).trans rfl
  have c11 : (((w2.alloc (.cells #[] 3)).alloc (.cells #[.slice (some ⟨w2.heap.size, 0, none⟩) 0 0] 22)).setCell ⟨w.heap.size, 9, none⟩ (.slice (some ⟨w2.heap.size + 1, 0, none⟩) 1 1)).cell? ⟨w.heap.size, 11, none⟩ = some (.int .i64 1) := (blk_cell HPV 11).trans rfl
  have c12 : (((w2.alloc (.cells #[] 3)).alloc (.cells #[.slice (some ⟨w2.heap.size, 0, none⟩) 0 0] 22)).setCell ⟨w.heap.size, 9, none⟩ (.slice (some ⟨w2.heap.size + 1, 0, none⟩) 1 1)).cell? ⟨w.heap.size, 12, none⟩ = some (.int .i64 0) := (blk_cell HPV 12).trans rfl
  have HC := Aside0.mk (one_set (w := (((w2.alloc (.cells #[] 3)).alloc (.cells #[.slice (some ⟨w2.heap.size, 0, none⟩) 0 0] 22)).setCell ⟨w.heap.size, 9, none⟩ (.slice (some ⟨w2.heap.size + 1, 0, none⟩) 1 1))) (b := w2.heap.size + 1) (b2 := w2.heap.size) (c2 := 0) (by
    have hx : ((w2.alloc (.cells #[] 3)).alloc (.cells #[.slice (some ⟨w2.heap.size, 0, none⟩) 0 0] 22)).heap[w2.heap.size + 1]? = some (.cells #[.slice (some ⟨w2.heap.size, 0, none⟩) 0 0] 22 (0, 0)) := by
      have := blk_new (w2.alloc (.cells #[] 3)) (.cells #[.slice (some ⟨w2.heap.size, 0, none⟩) 0 0] 22)
      simpa using this
    have := blk_far hx (p := ⟨w.heap.size, 9, none⟩) (by show w2.heap.size + 1 ≠ w.heap.size; omega) (.slice (some ⟨w2.heap.size + 1, 0, none⟩) 1 1)
    exact (blk_cell this 0).trans rfl))
  have HBV := Aside0.mk (show Below w.heap.size w (((w2.alloc (.cells #[] 3)).alloc (.cells #[.slice (some ⟨w2.heap.size, 0, none⟩) 0 0] 22)).setCell ⟨w.heap.size, 9, none⟩ (.slice (some ⟨w2.heap.size + 1, 0, none⟩) 1 1)) from below_set (below_alloc (below_alloc HB2.out _) _) (Nat.le_refl _))
  have HGV := Aside0.mk (show (((w2.alloc (.cells #[] 3)).alloc (.cells #[.slice (some ⟨w2.heap.size, 0, none⟩) 0 0] 22)).setCell ⟨w.heap.size, 9, none⟩ (.slice (some ⟨w2.heap.size + 1, 0, none⟩) 1 1)).heap[g]? = some (.cells #[.string ⟨#[115, 101, 116, 115]⟩, .int .i64 0] 47 (0, 0)) from blk_far (blk_alloc (blk_alloc HG2.out _) _) hgne _)
  have HTV := Aside0.mk (show (((w2.alloc (.cells #[] 3)).alloc (.cells #[.slice (some ⟨w2.heap.size, 0, none⟩) 0 0] 22)).setCell ⟨w.heap.size, 9, none⟩ (.slice (some ⟨w2.heap.size + 1, 0, none⟩) 1 1)).heap[w1.heap.size]? = some (.cells #[.pointer (some ⟨g, 0, none⟩)] 45 (0, 0)) from blk_far (blk_alloc (blk_alloc HT2.out _) _) (by show w1.heap.size ≠ w.heap.size; omega) _)
  clear HPV HP2 HB2 HG2 HT2 hpw2
  go_wp2_with fail
  refine (check_ok 0 0 [[]] (some ⟨w2.heap.size + 1, 0, none⟩) 1 (((w2.alloc (.cells #[] 3)).alloc (.cells #[.slice (some ⟨w2.heap.size, 0, none⟩) 0 0] 22)).setCell ⟨w.heap.size, 9, none⟩ (.slice (some ⟨w2.heap.size + 1, 0, none⟩) 1 1)) (by decide) (by decide) HC.out (by decide) (by decide) (sets_one 0)).mono ?_
  rintro e w3 ⟨rfl, hb⟩
  have HB3 := Aside0.mk (below_step HBV.out hb)
  have hT3 := blk_below HTV.out hb
  have hG3 := blk_below HGV.out hb
  clear v0 v1 c0 c1 c2 c3 c4 c5 c6 c7 c8 c9 c10 c11 c12
  have t0 : w3.cell? ⟨w1.heap.size, 0, none⟩ = some (.pointer (some ⟨g, 0, none⟩)) := (blk_cell hT3 0).trans rfl
  have g0 : w3.cell? ⟨g, 0, none⟩ = some (.string ⟨#[115, 101, 116, 115]⟩) := (blk_cell hG3 0).trans rfl
  have g1 : w3.cell? ⟨g, 1, none⟩ = some (.int .i64 0) := (blk_cell hG3 1).trans rfl
  clear hT3 hG3 hb HC HBV HGV HTV
  go_wp2_with fail
  have hx : (w3.alloc (.cells #[.int .i64 0, .int .i64 2] 3)).heap[w3.heap.size]? = some (.cells #[.int .i64 0, .int .i64 2] 3 (0, 0)) := blk_new _ _
  refine (PQ.query_Cube.calls 40 (some ⟨w3.heap.size, 0, none⟩) 2 [0, 2] [[0, 2], [0], [2], []] (w3.alloc (.cells #[.int .i64 0, .int .i64 2] 3)) (two_ints (blk_cell hx 0) (blk_cell hx 1)) (by decide) cube_02).mono ?_
  rintro e w4 ⟨v0, rfl, hs, hb⟩
  obtain ⟨A4, c4, rfl⟩ := Kd.R_slice (Kd.S_R hs)
  have HB4 := below_step (below_alloc HB3.out _) hb
  go_wp2
  go_ret
  exact ⟨rfl, HB4⟩
end Go.Proofs.YteleaflneejipaaDoor
