/- The contracts of filter.same, of its closure and of filter.Same: no condition but small numbers. -/
import Derived.Test.YtddjbhphhhdnfaaG13
import Derived.Test.YtddjbhphhhdnfaaL4
namespace Go.Proofs.Ytddjbhphhhdnfaa.K
open Go.RowKit
set_option linter.unusedVariables false
set_option linter.unusedSimpArgs false

theorem kids_w0 (w0 : World) (x : Filter) (cs : List Value) (W : World) (h : kFilter.K w0 Any x cs) (hb : Below w0.heap.size w0 W) :
    Calls Try.prog 25 #[.agg cs.toArray] W fun e w' => ∃ A c, e = .returned (.slice A (kidsOf x).length c) ∧ kFilter.C w0 Any A (kidsOf x).length (kidsOf x) ∧ Below W.heap.size W w' := by
  refine (kids_any x _ W (fun k => k < w0.heap.size) (kFilter.mono (fun _ hk => hk.2) (kFilter.move (fun k hk _ => hb.block k hk.2) (kFilter.lt h)))).mono ?_
  rintro e w3 ⟨A, c, rfl, hlc, hC, hb3⟩
  have hb4 := below_then hb hb3 hb.size
  exact ⟨A, c, rfl, Kd.C_any (Kd.C_move (w1 := w0) (fun k hk _ => (hb4.block k hk).symm) hC), hb3⟩

theorem set_three {w W w0 : World} {o1 o2 o3 : Obj} {L : Nat} {u v : Value} (hW : (((w.alloc o1).alloc o2).alloc o3).setCell ⟨L, 0, none⟩ v = W) (h : w.heap[L]? = some (.cells #[u] 3 (0, 0))) (hB : Below w0.heap.size w0 w) (hL : w0.heap.size ≤ L) :
    W.heap[w.heap.size]? = some o1 ∧ W.heap[w.heap.size + 1]? = some o2 ∧ W.heap[w.heap.size + 1 + 1]? = some o3 ∧ Frm L w W ∧ Below w0.heap.size w0 W ∧ W.heap[L]? = some (.cells #[v] 3 (0, 0)) := by
  generalize hV : ((w.alloc o1).alloc o2).alloc o3 = V at hW
  obtain ⟨b1, b2, b3, hbel⟩ := three_known hV
  have hl := blk_lt h
  subst hW
  refine ⟨(set_other (by show _ ≠ L; omega)).trans b1, (set_other (by show _ ≠ L; omega)).trans b2, (set_other (by show _ ≠ L; omega)).trans b3, (Frm.of_below hbel).trans (Frm.set L V 0 v), (below_then hB hbel hB.size).setCell hL v, ?_⟩
  exact blk_set (blk_below h hbel) 0 v

/-- What same is known to tell of some filters. -/
def SameAt (w0 : World) (L : Nat) (ks : List Filter) : Prop := ∀ k ∈ ks, ∀ (y : Filter) (left : Int) cs ds W, (size k : Int) ≤ left → left ≤ 1000 → kFilter.K w0 Any k cs → kFilter.K w0 Any y ds → Below w0.heap.size w0 W →
  W.heap[L]? = some (.cells #[.int .i64 left] 3 (0, 0)) → Calls Try.prog 34 #[.agg cs.toArray, .agg ds.toArray, .pointer (some ⟨L, 0, none⟩)] W (SamePost (sameF k y) (size k) left w0 L W)

set_option maxHeartbeats 2000000 in
theorem clo_same (w0 : World) (L B : Nat) (ks : List Filter) (ih : SameAt w0 L ks) : CloAt w0 L B ks := by
  intro k hk y left cs ds W hs hl hK hK2 hB hL hP
  have HI := Aside.mk (fun o o' => ih k hk y left cs ds ((W.alloc o).alloc o') hs hl hK hK2 ((hB.alloc hB.size o).alloc (by have := hB.size; simp; omega) o') (blk_alloc (blk_alloc hL o) o'))
  obtain ⟨A0, c0, A1, c1, rfl, q0, q1, q2, q3, q4, q5⟩ := kFilter_open hK
  obtain ⟨C0, e0, C1, e1, rfl, s0, s1, s2, s3, s4, s5⟩ := kFilter_open hK2
  have hp := fun o o' => (blk_cell (blk_alloc (blk_alloc hP o) o') 0).trans rfl
  clear hK hK2 hB hL hP q0 q1 q2 q3 q4 q5 s0 s1 s2 s3 s4 s5 ih
  go_enter Try.func44, Try.ntmps44
  go_wp2_with fail
  refine (HI.out _ _).mono ?_
  rintro e w5 ⟨l, rfl, hl3, hl4, hL5, hB5, hF5⟩
  have HP := Aside.mk (And.intro hL5 (And.intro hB5 hF5))
  clear hL5 hB5 hF5 hp
  go_wp2
  go_ret
  exact ⟨l, rfl, hl3, hl4, HP.out.1, HP.out.2.1, ((Frm.alloc L W _).trans (Frm.alloc L _ _)).trans HP.out.2.2⟩

set_option maxHeartbeats 8000000 in
set_option maxRecDepth 100000 in
theorem same_part (w0 : World) (L : Nat) (hL0 : w0.heap.size ≤ L) (x y : Filter) (left : Int) (cs ds : List Value) (w : World) (hs : (size x : Int) ≤ left) (hl : left ≤ 1000) (h : kFilter.K w0 Any x cs) (h2 : kFilter.K w0 Any y ds) (hB : Below w0.heap.size w0 w)
    (hL : w.heap[L]? = some (.cells #[.int .i64 left] 3 (0, 0))) (ih : SameAt w0 L (kidsOf x)) :
    Calls Try.prog 34 #[.agg cs.toArray, .agg ds.toArray, .pointer (some ⟨L, 0, none⟩)] w (SamePost (sameF x y) (size x) left w0 L w) := by
  have HX := Aside.mk h
  have HY := Aside.mk h2
  have HIH := Aside.mk ih
  have hLw : L < w.heap.size := blk_lt hL
  have hcL : ∀ o o' o'', (((w.alloc o).alloc o').alloc o'').cell? ⟨L, 0, none⟩ = some (.int .i64 left) := fun o o' o'' => (blk_cell (blk_alloc (blk_alloc (blk_alloc hL o) o') o'') 0).trans rfl
  have hfL : ∀ o o' o'', (((w.alloc o).alloc o').alloc o'').frozen? ⟨L, 0, none⟩ = false := fun o o' o'' => blk_frozen (blk_alloc (blk_alloc (blk_alloc hL o) o') o'') 0
  have hcL2 : ∀ o o' o'', ((((w.setCell ⟨L, 0, none⟩ (.int .i64 (left - 1))).alloc o).alloc o').alloc o'').cell? ⟨L, 0, none⟩ = some (.int .i64 (left - 1)) := fun o o' o'' => (blk_cell (blk_alloc (blk_alloc (blk_alloc (blk_set hL 0 _) o) o') o'') 0).trans rfl
  have hsz := size_eq x
  have hge : ¬ left - 1 < 0 := by omega
  have HL := Aside.mk hL
  have HB := Aside.mk hB
  obtain ⟨A0, c0, A1, c1, rfl, q0, q1, q2, q3, q4, q5⟩ := kFilter_open h
  obtain ⟨C0, e0, C1, e1, rfl, s0, s1, s2, s3, s4, s5⟩ := kFilter_open h2
  have HSZ := Aside.mk (And.intro hsz hs)
  clear h h2 hB hL ih q0 q1 q2 q3 q4 q5 s0 s1 s2 s3 s4 s5 hsz
  go_enter Try.func34, Try.ntmps34
  go_wp2_with fail
  clear hcL hfL hcL2
  generalize hW : (((w.alloc _).alloc _).alloc _).setCell _ _ = W
  obtain ⟨b1, b2, b3, hFW, hBW, hLW⟩ := set_three hW HL.out HB.out hL0
  have HP1 := Aside.mk b1
  have HP2 := Aside.mk b2
  have HP3 := Aside.mk b3
  have HFW := Aside.mk hFW
  have HBW := Aside.mk hBW
  have HLW := Aside.mk hLW
  have hB5 : w.heap.size + 1 + 1 ≠ L := by omega
  have hB4 : w.heap.size + 1 ≠ L := by omega
  have hB3 : w.heap.size ≠ L := by omega
  clear hW b1 b2 b3 hFW hBW hLW
  have hcl : ∀ W', Aside (Below W.heap.size W W') → (fun W => W.cell? ⟨w.heap.size, 0, none⟩ = some (.int .i64 x.Kind) ∧ W.cell? ⟨w.heap.size, 1, none⟩ = some (.int .i64 x.Dim) ∧ W.cell? ⟨w.heap.size, 2, none⟩ = some (.slice A0 x.Texts.length c0) ∧ W.cell? ⟨w.heap.size, 3, none⟩ = some (.int .i64 x.Lo) ∧ W.cell? ⟨w.heap.size, 4, none⟩ = some (.int .i64 x.Hi) ∧ W.cell? ⟨w.heap.size, 5, none⟩ = some (.slice A1 x.Kids.length c1) ∧ W.cell? ⟨w.heap.size + 1, 0, none⟩ = some (.int .i64 y.Kind) ∧ W.cell? ⟨w.heap.size + 1, 1, none⟩ = some (.int .i64 y.Dim) ∧ W.cell? ⟨w.heap.size + 1, 2, none⟩ = some (.slice C0 y.Texts.length e0) ∧ W.cell? ⟨w.heap.size + 1, 3, none⟩ = some (.int .i64 y.Lo) ∧ W.cell? ⟨w.heap.size + 1, 4, none⟩ = some (.int .i64 y.Hi) ∧ W.cell? ⟨w.heap.size + 1, 5, none⟩ = some (.slice C1 y.Kids.length e1)) W' := fun W' I => by
    obtain ⟨i0, i1, i2, i3, i4, i5⟩ := blk6 HP1.out I.out
    obtain ⟨j0, j1, j2, j3, j4, j5⟩ := blk6 HP2.out I.out
    exact ⟨i0, i1, i2, i3, i4, i5, j0, j1, j2, j3, j4, j5⟩
  have hlk := fun W' (I : Aside (Below W.heap.size W W')) => Aside.mk (like_any x y _ _ W' (Kd.below HX.out (below_then HBW.out I.out HBW.out.size)) (Kd.below HY.out (below_then HBW.out I.out HBW.out.size)))
  have HI4 := Aside.mk (Below.refl W.heap.size W).drew
  by_cases hv : likeF x y = true
  · rw [hv] at hlk
    have HV := Aside.mk (show sameF x y = zipAll sameF (kidsOf x) (kidsOf y) by rw [sameF_eq, hv, Bool.true_and])
    have hclF : ∀ W', Aside (Frm L W W') → (fun W => W.cell? ⟨w.heap.size, 0, none⟩ = some (.int .i64 x.Kind) ∧ W.cell? ⟨w.heap.size, 1, none⟩ = some (.int .i64 x.Dim) ∧ W.cell? ⟨w.heap.size, 2, none⟩ = some (.slice A0 x.Texts.length c0) ∧ W.cell? ⟨w.heap.size, 3, none⟩ = some (.int .i64 x.Lo) ∧ W.cell? ⟨w.heap.size, 4, none⟩ = some (.int .i64 x.Hi) ∧ W.cell? ⟨w.heap.size, 5, none⟩ = some (.slice A1 x.Kids.length c1) ∧ W.cell? ⟨w.heap.size + 1, 0, none⟩ = some (.int .i64 y.Kind) ∧ W.cell? ⟨w.heap.size + 1, 1, none⟩ = some (.int .i64 y.Dim) ∧ W.cell? ⟨w.heap.size + 1, 2, none⟩ = some (.slice C0 y.Texts.length e0) ∧ W.cell? ⟨w.heap.size + 1, 3, none⟩ = some (.int .i64 y.Lo) ∧ W.cell? ⟨w.heap.size + 1, 4, none⟩ = some (.int .i64 y.Hi) ∧ W.cell? ⟨w.heap.size + 1, 5, none⟩ = some (.slice C1 y.Kids.length e1)) W' := fun W' I => by
      obtain ⟨i0, i1, i2, i3, i4, i5, _⟩ := cells6 (I.out.blk HP1.out hB3)
      obtain ⟨j0, j1, j2, j3, j4, j5, _⟩ := cells6 (I.out.blk HP2.out hB4)
      exact ⟨i0, i1, i2, i3, i4, i5, j0, j1, j2, j3, j4, j5⟩
    have hkx := fun W' (I : Aside (Below W.heap.size W W')) => Aside.mk (kids_w0 w0 x _ W' HX.out (below_then HBW.out I.out HBW.out.size))
    have hky := fun W' (I : Aside (Below W.heap.size W W')) => Aside.mk (kids_w0 w0 y _ W' HY.out (below_then HBW.out I.out HBW.out.size))
    have heq := fun W' (I : Aside (Below W.heap.size W W')) A A' c d (h : Aside (kFilter.C w0 Any A (kidsOf x).length (kidsOf x))) (h2 : Aside (kFilter.C w0 Any A' (kidsOf y).length (kidsOf y))) => Aside.mk (equalFunc_any w0 L (w.heap.size + 1 + 1) hL0 hB5 (kidsOf x) (kidsOf y) A A' c d (left - 1) W' h.out h2.out (by have := HSZ.out; omega) (by omega) (below_then HBW.out I.out HBW.out.size) (blk_below HLW.out I.out) (blk_below HP3.out I.out) (clo_same w0 L _ _ HIH.out))
    clear hv
    generalize zipAll sameF (kidsOf x) (kidsOf y) = z at *
    go_region_held3 (fun W => W.cell? ⟨w.heap.size, 0, none⟩ = some (.int .i64 x.Kind) ∧ W.cell? ⟨w.heap.size, 1, none⟩ = some (.int .i64 x.Dim) ∧ W.cell? ⟨w.heap.size, 2, none⟩ = some (.slice A0 x.Texts.length c0) ∧ W.cell? ⟨w.heap.size, 3, none⟩ = some (.int .i64 x.Lo) ∧ W.cell? ⟨w.heap.size, 4, none⟩ = some (.int .i64 x.Hi) ∧ W.cell? ⟨w.heap.size, 5, none⟩ = some (.slice A1 x.Kids.length c1) ∧ W.cell? ⟨w.heap.size + 1, 0, none⟩ = some (.int .i64 y.Kind) ∧ W.cell? ⟨w.heap.size + 1, 1, none⟩ = some (.int .i64 y.Dim) ∧ W.cell? ⟨w.heap.size + 1, 2, none⟩ = some (.slice C0 y.Texts.length e0) ∧ W.cell? ⟨w.heap.size + 1, 3, none⟩ = some (.int .i64 y.Lo) ∧ W.cell? ⟨w.heap.size + 1, 4, none⟩ = some (.int .i64 y.Hi) ∧ W.cell? ⟨w.heap.size + 1, 5, none⟩ = some (.slice C1 y.Kids.length e1)) (first | exact hcl _ (by assumption) | exact hclF _ (by assumption)) (first
      | (go_at_call 43; refine (heq _ HI7 _ _ _ _ HKX HKY).out.mono ?_; rintro e w8 ⟨l, rfl, hl3, hl4, hL8, hB8, hF8⟩; have HL8 := Aside.mk hL8; have HB8 := Aside.mk hB8; have HF8 := Aside.mk ((Frm.of_below HI7.out).trans hF8); clear hL8 hB8 hF8)
      | (go_at_call 25; refine (hky _ HI6).out.mono ?_; rintro e w7 ⟨A', d, rfl, hC, hb⟩; have HKY := Aside.mk hC; have HI7 := Aside.mk (below_self HI6.out hb); clear hb hC)
      | (go_at_call 25; refine (hkx _ HI5).out.mono ?_; rintro e w6 ⟨A, c, rfl, hC, hb⟩; have HKX := Aside.mk hC; have HI6 := Aside.mk (below_self HI5.out hb); clear hb hC)
      | (go_at_call 42; refine (hlk _ HI4).out.mono ?_; rintro e w5 ⟨rfl, hb⟩; have HI5 := Aside.mk (below_self HI4.out hb); clear hb))
    all_goals
      go_wp2
      go_ret
      exact ⟨l, ret_bool HV.out.symm, by have := HSZ.out; omega, by omega, HL8.out, HB8.out, HFW.out.trans HF8.out⟩
  · have hv0 : likeF x y = false := by simpa using hv
    rw [hv0] at hlk
    have HV := Aside.mk (show sameF x y = false by rw [sameF_eq, hv0, Bool.false_and])
    have hszp := size_pos x
    refine wp_region_held_drew (S := (fun W => W.cell? ⟨w.heap.size, 0, none⟩ = some (.int .i64 x.Kind) ∧ W.cell? ⟨w.heap.size, 1, none⟩ = some (.int .i64 x.Dim) ∧ W.cell? ⟨w.heap.size, 2, none⟩ = some (.slice A0 x.Texts.length c0) ∧ W.cell? ⟨w.heap.size, 3, none⟩ = some (.int .i64 x.Lo) ∧ W.cell? ⟨w.heap.size, 4, none⟩ = some (.int .i64 x.Hi) ∧ W.cell? ⟨w.heap.size, 5, none⟩ = some (.slice A1 x.Kids.length c1) ∧ W.cell? ⟨w.heap.size + 1, 0, none⟩ = some (.int .i64 y.Kind) ∧ W.cell? ⟨w.heap.size + 1, 1, none⟩ = some (.int .i64 y.Dim) ∧ W.cell? ⟨w.heap.size + 1, 2, none⟩ = some (.slice C0 y.Texts.length e0) ∧ W.cell? ⟨w.heap.size + 1, 3, none⟩ = some (.int .i64 y.Lo) ∧ W.cell? ⟨w.heap.size + 1, 4, none⟩ = some (.int .i64 y.Hi) ∧ W.cell? ⟨w.heap.size + 1, 5, none⟩ = some (.slice C1 y.Kids.length e1))) (by kernel_rfl) (hcl _ HI4) (fun hHeld => ?_)
    try simp only [Act.put, List.setIfInBounds_toArray, List.set_cons_zero, List.set_cons_succ]
    refine wpAnyH_take (i := 0) (oi := _) (v := ?_) rfl (by kernel_rfl) (by kernel_rfl) (by kernel_rfl) (fun _ _ _ h => h) (Or.inl ⟨by rfl, ?_⟩) (by assumption) ?_
    rotate_left
    · intro wv hSw
      try dsimp only at hSw
      go_simp
      with_reducible rfl
    try simp only [Act.put, List.setIfInBounds_toArray, List.set_cons_zero, List.set_cons_succ]
    refine wpAnyH_take (i := 1) (oi := _) (v := ?_) rfl (by kernel_rfl) (by kernel_rfl) (by kernel_rfl) (fun _ _ _ h => h) (Or.inl ⟨by rfl, ?_⟩) (by assumption) ?_
    rotate_left
    · intro wv hSw
      try dsimp only at hSw
      go_simp
      with_reducible rfl
    try simp only [Act.put, List.setIfInBounds_toArray, List.set_cons_zero, List.set_cons_succ]
    refine wpAnyH_ready (rs := [2]) (by kernel_rfl) (by simp) ?_
    refine AllReadyH.cons (o := _) rfl (fun K hK => ?_) AllReadyH.nil
    go_simp
    refine (hlk _ HI4).out.mono ?_
    rintro e w5 ⟨rfl, hb⟩
    have HI5 := Aside.mk (below_self HI4.out hb)
    clear hb
    refine hK.out _ _ (hcl _ HI5) (fun hHeld => ?_)
    clear hK K
    try simp only [Act.put, List.setIfInBounds_toArray, List.set_cons_zero, List.set_cons_succ]
    refine wpAnyH_take (i := 3) (oi := _) (v := ?_) rfl (by kernel_rfl) (by kernel_rfl) (by kernel_rfl) (fun _ _ _ h => h) (Or.inl ⟨by rfl, ?_⟩) (by assumption) ?_
    rotate_left
    · intro wv hSw
      try dsimp only at hSw
      go_simp
      with_reducible rfl
    try simp only [Act.put, List.setIfInBounds_toArray, List.set_cons_zero, List.set_cons_succ]
    refine wpAnyH_take (i := 4) (oi := _) (v := undef) rfl (by kernel_rfl) (by kernel_rfl) (by kernel_rfl) (fun _ _ _ h => h) (Or.inr ⟨by kernel_rfl, rfl⟩) (by assumption) ?_
    try simp only [Act.put, List.setIfInBounds_toArray, List.set_cons_zero, List.set_cons_succ]
    refine wpAnyH_take (i := 5) (oi := _) (v := undef) rfl (by kernel_rfl) (by kernel_rfl) (by kernel_rfl) (fun _ _ _ h => h) (Or.inr ⟨by kernel_rfl, rfl⟩) (by assumption) ?_
    try simp only [Act.put, List.setIfInBounds_toArray, List.set_cons_zero, List.set_cons_succ]
    refine wpAnyH_take (i := 6) (oi := _) (v := undef) rfl (by kernel_rfl) (by kernel_rfl) (by kernel_rfl) (fun _ _ _ h => h) (Or.inr ⟨by kernel_rfl, rfl⟩) (by assumption) ?_
    try simp only [Act.put, List.setIfInBounds_toArray, List.set_cons_zero, List.set_cons_succ]
    refine wpAnyH_take (i := 7) (oi := _) (v := undef) rfl (by kernel_rfl) (by kernel_rfl) (by kernel_rfl) (fun _ _ _ h => h) (Or.inr ⟨by kernel_rfl, rfl⟩) (by assumption) ?_
    try simp only [Act.put, List.setIfInBounds_toArray, List.set_cons_zero, List.set_cons_succ]
    refine wpAnyH_take (i := 8) (oi := _) (v := undef) rfl (by kernel_rfl) (by kernel_rfl) (by kernel_rfl) (fun _ _ _ h => h) (Or.inr ⟨by kernel_rfl, rfl⟩) (by assumption) ?_
    try simp only [Act.put, List.setIfInBounds_toArray, List.set_cons_zero, List.set_cons_succ]
    refine wpAnyH_take (i := 9) (oi := _) (v := undef) rfl (by kernel_rfl) (by kernel_rfl) (by kernel_rfl) (fun _ _ _ h => h) (Or.inr ⟨by kernel_rfl, rfl⟩) (by assumption) ?_
    try simp only [Act.put, List.setIfInBounds_toArray, List.set_cons_zero, List.set_cons_succ]
    refine wpAnyH_take (i := 10) (oi := _) (v := ?_) rfl (by kernel_rfl) (by kernel_rfl) (by kernel_rfl) (fun _ _ _ h => h) (Or.inl ⟨by rfl, ?_⟩) (by assumption) ?_
    rotate_left
    · intro wv hSw
      try dsimp only at hSw
      go_simp
      with_reducible rfl
    try simp only [Act.put, List.setIfInBounds_toArray, List.set_cons_zero, List.set_cons_succ]
    refine wpAnyH_take (i := 11) (oi := _) (v := ?_) rfl (by kernel_rfl) (by kernel_rfl) (by kernel_rfl) (fun _ _ _ h => h) (Or.inl ⟨by rfl, ?_⟩) (by assumption) ?_
    rotate_left
    · intro wv hSw
      try dsimp only at hSw
      go_simp
      with_reducible rfl
    try simp only [Act.put, List.setIfInBounds_toArray, List.set_cons_zero, List.set_cons_succ]
    refine wpAnyH_done (by kernel_rfl) ?_ _
    go_simp
    go_wp2
    go_ret
    exact ⟨left - 1, ret_bool HV.out.symm, by omega, by omega, blk_below HLW.out HI5.out, below_then HBW.out HI5.out HBW.out.size, HFW.out.trans (Frm.of_below HI5.out)⟩
theorem same_any (w0 : World) (L : Nat) (hL0 : w0.heap.size ≤ L) : ∀ n x, ht x ≤ n → ∀ (y : Filter) (left : Int) cs ds W, (size x : Int) ≤ left → left ≤ 1000 → kFilter.K w0 Any x cs → kFilter.K w0 Any y ds → Below w0.heap.size w0 W →
    W.heap[L]? = some (.cells #[.int .i64 left] 3 (0, 0)) → Calls Try.prog 34 #[.agg cs.toArray, .agg ds.toArray, .pointer (some ⟨L, 0, none⟩)] W (SamePost (sameF x y) (size x) left w0 L W) := by
  intro n
  induction n with
  | zero => intro x hx; rw [ht_eq] at hx; omega
  | succ n ih => exact fun x hx y left cs ds W hs hl hK hK2 hB hL => same_part w0 L hL0 x y left cs ds W hs hl hK hK2 hB hL (fun k hk => ih k (by have := ht_kid hk; omega))
end Go.Proofs.Ytddjbhphhhdnfaa.K
