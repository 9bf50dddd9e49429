/- The contracts of the reference's walk and Check, of schema: no condition. -/
import Derived.Test.YtddjbhphhhdnfaaF5
import Derived.Test.YtddjbhphhhdnfaaF6
import Derived.StillTailTactics
namespace Go.Proofs.Ytddjbhphhhdnfaa.K
open Go.RowKit
set_option linter.unusedVariables false
set_option linter.unusedSimpArgs false

def RCnt (dims meas : Int) (x : Filter) (d left r : Int) : Prop :=
  (0 ≤ r ↔ (size x : Int) ≤ left ∧ allF (fineC dims meas) x d = true) ∧ (0 ≤ r → r = left - size x) ∧ -1 ≤ r
def WalkPost (dims meas : Int) (x : Filter) (d left : Int) (w : World) (e : Ending) (w' : World) : Prop := ∃ r, e = .returned (.int .i64 r) ∧ RCnt dims meas x d left r ∧ Below w.heap.size w w'
theorem RCnt_none {dims meas : Int} {x : Filter} {d left : Int} (h : left < 1) : RCnt dims meas x d left (-1) := by
  have := size_pos x
  exact ⟨⟨fun h => by omega, fun h => by omega⟩, fun h => by omega, by omega⟩
theorem RCnt_bad {dims meas : Int} {x : Filter} {d left : Int} (hf : fineC dims meas x d = false) : RCnt dims meas x d left (-1) := by
  refine ⟨⟨fun h => by omega, fun h => ?_⟩, fun h => by omega, by omega⟩
  rw [allF_eq, hf] at h
  simp at h
theorem RCnt_kid {dims meas : Int} {x : Filter} {d left l r : Int} {k : Nat} (hk : k < (kidsOf x).length) (hl : l = left - 1 - sizes ((kidsOf x).take k)) (h : RCnt dims meas (kidsOf x)[k] (d + 1) l r) (hr : r < 0) : RCnt dims meas x d left (-1) ∧ r = -1 := by
  obtain ⟨h1, _, h3⟩ := h
  have hs := size_eq x
  have ht := sizes_take_succ hk
  have hle := sizes_take_le (kidsOf x) (k + 1)
  refine ⟨⟨⟨fun h => by omega, fun ⟨ha, hb⟩ => ?_⟩, fun h => by omega, by omega⟩, by omega⟩
  rw [allF_eq, Bool.and_eq_true, List.all_eq_true] at hb
  have := h1.2 ⟨by omega, hb.2 _ (List.getElem_mem hk)⟩
  omega
theorem RCnt_all {dims meas : Int} {x : Filter} {d left : Int} (h0 : 0 ≤ left - 1 - sizes (kidsOf x)) (hf : fineC dims meas x d = true) (h : ∀ j (hj : j < (kidsOf x).length), allF (fineC dims meas) (kidsOf x)[j] (d + 1) = true) : RCnt dims meas x d left (left - 1 - sizes (kidsOf x)) := by
  have hs := size_eq x
  refine ⟨⟨fun _ => ⟨by omega, ?_⟩, fun _ => h0⟩, fun _ => by omega, by omega⟩
  rw [allF_eq, hf, Bool.true_and, List.all_eq_true]
  intro k hk
  obtain ⟨j, hj, rfl⟩ := List.mem_iff_getElem.1 hk
  exact h j hj

/-- What holds at the loop's head. -/
def WalkRel (dims meas : Int) (x : Filter) (d left : Int) (k : Nat) (l : Int) : Prop :=
  (l = left - 1 - sizes ((kidsOf x).take k) ∧ 0 ≤ l ∧ ∀ j (hj : j < k) (hx : j < (kidsOf x).length), allF (fineC dims meas) (kidsOf x)[j] (d + 1) = true) ∨ (l = -1 ∧ RCnt dims meas x d left (-1))

set_option maxHeartbeats 2000000 in
set_option maxRecDepth 100000 in
theorem refWalk_any (dims meas : Int) :
    ∀ n x, ht x ≤ n → ∀ (d left : Int) (cs : List Value) (w : World), 0 ≤ d → 0 ≤ left → d + left ≤ 1000 → kFilter.K w Any x cs →
    Calls Try.prog 18 #[.agg #[.int .i64 dims, .int .i64 meas], .agg cs.toArray, .int .i64 d, .int .i64 left, .bool true] w (WalkPost dims meas x d left w) := by
  intro n
  induction n with
  | zero => intro x hx; rw [ht_eq] at hx; omega
  | succ n ih =>
    intro x hx d left cs w hd0 hl0 hdl hK
    have HK := Aside.mk hK
    have HB := Aside.mk (fun o o' => below_alloc (below_alloc (Below.refl _ w) o) o')
    obtain ⟨A0, c0, A1, c1, rfl, q0, q1, q2, q3, q4, q5⟩ := kFilter_open hK
    clear hK q0 q1 q2 q3 q4 q5
    by_cases h1 : left < 1
    · have hlt : left - 1 < 0 := by omega
      go_enter Try.func18, Try.ntmps18
      go_wp2
      go_ret
      exact ⟨-1, rfl, RCnt_none h1, HB.out _ _⟩
    · have hge : ¬ left - 1 < 0 := by omega
      have HP := fun o o' => Aside.mk (refPart_any dims meas x _ ((w.alloc o).alloc o') (Kd.below HK.out (HB.out o o')))
      by_cases hf : fineC dims meas x d = true
      · have hf1 : d ≤ 20 := by
          simp only [fineC, Bool.and_eq_true, decide_eq_true_eq] at hf
          exact hf.1
        have hf2 : partOf dims meas x = true := by
          simp only [fineC, Bool.and_eq_true, decide_eq_true_eq] at hf
          exact hf.2
        rw [hf2] at HP
        have HF := Aside.mk hf
        clear hf hf2
        go_enter Try.func18, Try.ntmps18
        go_wp2_with fail
        refine (HP _ _).out.mono ?_
        rintro e w2 ⟨rfl, hb2⟩
        have HB2 := Aside.mk (below_self (HB.out _ _) hb2)
        have hboxS : w2.heap[w.heap.size]? = some (.cells #[.int .i64 dims, .int .i64 meas] 33 (0, 0)) := blk_below (blk_alloc (blk_new _ _) _) hb2
        have hboxX : w2.heap[w.heap.size + 1]? = some (.cells #[.int .i64 x.Kind, .int .i64 x.Dim, .slice A0 x.Texts.length c0, .int .i64 x.Lo, .int .i64 x.Hi, .slice A1 x.Kids.length c1] 25 (0, 0)) := by
          refine blk_below ?_ hb2
          have := blk_new (w.alloc (.cells #[.int .i64 dims, .int .i64 meas] 33 (0, 0))) (.cells #[.int .i64 x.Kind, .int .i64 x.Dim, .slice A0 x.Texts.length c0, .int .i64 x.Lo, .int .i64 x.Hi, .slice A1 x.Kids.length c1] 25 (0, 0))
          simpa using this
        have HS2 := Aside.mk hboxS
        have i0 := (blk_cell hboxX 0).trans rfl
        have i1 := (blk_cell hboxX 1).trans rfl
        have i2 := (blk_cell hboxX 2).trans rfl
        have i3 := (blk_cell hboxX 3).trans rfl
        have i4 := (blk_cell hboxX 4).trans rfl
        have i5 := (blk_cell hboxX 5).trans rfl
        have HKK := Aside.mk (refKids_any x _ w2 Any (Kd.below HK.out HB2.out))
        clear hb2 hboxS hboxX
        go_wp2_with fail
        refine HKK.out.mono ?_
        rintro e w3 ⟨A, c, rfl, hlc, hC, hb3⟩
        have HC := Aside.mk hC
        have HB3 := Aside.mk (below_self HB2.out hb3)
        have HS3 := Aside.mk (blk_below HS2.out hb3)
        have hn := hC.2.1
        clear i0 i1 i2 i3 i4 i5 hC hb3 HKK
        go_wp2
        go_loopw [3, 13] (fun l i wr => ∃ (k : Nat) (lv : Int), k ≤ (kidsOf x).length ∧ i = .int .i64 k ∧ l = .int .i64 lv ∧ WalkRel dims meas x d left k lv ∧ Below w3.heap.size w3 wr) (fun l i _ => (kidsOf x).length - (intOf i).toNat)
        case atStart => exact ⟨0, left - 1, Nat.zero_le _, rfl, rfl, .inl ⟨by simp [sizes], by omega, fun j hj => absurd hj (Nat.not_lt_zero _)⟩, Below.refl _ _⟩
        case round =>
          obtain ⟨k, lv, hk, rfl, rfl, hrel, hbr⟩ := hrel
          have HBR := Aside.mk hbr
          clear hbr
          rcases hrel with ⟨hlv, hlv0, hall⟩ | ⟨rfl, hbad⟩
          · have HLV := Aside.mk hlv
            have HALL := Aside.mk hall
            have hlvu : lv ≤ left - 1 := by omega
            clear hlv hall
            by_cases hlt : k < (kidsOf x).length
            · obtain ⟨ad, B0, d0, B1, d1, hA, hFF, hl, m0, m1, m2, m3, m4, m5, hK⟩ := kFilter_at HC.out HBR.out hlt
              subst hA
              have HI := fun W (hW : Below wr.heap.size wr W) => Aside.mk (ih (kidsOf x)[k] (by have := ht_kid (List.getElem_mem hlt); omega) (d + 1) lv _ W (by omega) hlv0 (by omega) (Kd.below (Kd.below hK HBR.out) hW))
              have hboxS := blk_below HS3.out HBR.out
              have s0 := (blk_cell hboxS 0).trans rfl
              have s1 := (blk_cell hboxS 1).trans rfl
              clear hK hboxS
              go_wp2_with fail
              go_still_tail 9, (by kernel_rfl)
              change wpList _ _ _ _ _ wr.drew
              go_wp2_with fail
              refine (HI _ (Below.refl _ wr).drew).out.mono ?_
              rintro e w5 ⟨r, rfl, hcnt, hb5⟩
              have HCN := Aside.mk hcnt
              have HB5 := Aside.mk (below_self (Below.drew HBR.out) hb5)
              have hr1 := hcnt.2.2
              clear hcnt hb5 m0 m1 m2 m3 m4 m5 HI s0 s1
              go_wp2
              go_roundw
              case rel =>
                refine ⟨k + 1, r, by omega, by go_num, rfl, ?_, HB5.out⟩
                by_cases hr : 0 ≤ r
                · have h1 := HCN.out.1.1 hr
                  have h2 := HCN.out.2.1 hr
                  have h3 := sizes_take_succ hlt
                  have h4 := HLV.out
                  refine .inl ⟨by omega, hr, fun j hj hx => ?_⟩
                  rcases Nat.lt_or_ge j k with h | h
                  · exact HALL.out j h hx
                  · obtain rfl : j = k := by omega
                    exact h1.2
                · obtain ⟨h1, h2⟩ := RCnt_kid hlt HLV.out HCN.out (by omega)
                  exact .inr ⟨h2, h1⟩
              case measure => simp [intOf]; omega
            · have hkk : k = (kidsOf x).length := by omega
              subst hkk
              go_wp2
              go_ret
              refine ⟨lv, rfl, ?_, below_self HB3.out HBR.out⟩
              have e := HLV.out
              rw [List.take_length] at e
              subst e
              exact RCnt_all hlv0 HF.out (fun j hj => HALL.out j hj hj)
          · have HBAD := Aside.mk hbad
            clear hbad
            go_wp2
            all_goals
              go_ret
              exact ⟨-1, rfl, HBAD.out, below_self HB3.out HBR.out⟩
      · have hf0 : fineC dims meas x d = false := by simpa using hf
        have HF := Aside.mk hf0
        clear hf
        by_cases hp : partOf dims meas x = true
        · have hd : ¬ d ≤ 20 := by
            intro h
            simp [fineC, h, hp] at hf0
          rw [hp] at HP
          clear hp hf0
          go_enter Try.func18, Try.ntmps18
          go_wp2_with fail
          refine (HP _ _).out.mono ?_
          rintro e w2 ⟨rfl, hb2⟩
          go_wp2
          go_ret
          exact ⟨-1, rfl, RCnt_bad HF.out, below_self (HB.out _ _) hb2⟩
        · have hp0 : partOf dims meas x = false := by simpa using hp
          rw [hp0] at HP
          clear hp hp0 hf0
          go_enter Try.func18, Try.ntmps18
          go_wp2_with fail
          refine (HP _ _).out.mono ?_
          rintro e w2 ⟨rfl, hb2⟩
          go_wp2
          go_ret
          exact ⟨-1, rfl, RCnt_bad HF.out, below_self (HB.out _ _) hb2⟩

set_option maxHeartbeats 1000000 in
theorem refCheck_any (dims meas : Int) (x : Filter) (cs : List Value) (w : World) (h : kFilter.K w Any x cs) :
    Calls Try.prog 8 #[.agg #[.int .i64 dims, .int .i64 meas], .agg cs.toArray] w fun e w' => e = .returned (.int .i64 (errOf (okF dims meas x))) ∧ Below w.heap.size w w' := by
  have HB := Aside.mk (fun o o' => below_alloc (below_alloc (Below.refl _ w) o) o')
  have HC := fun o o' => Aside.mk (refWalk_any dims meas _ x (Nat.le_refl _) 1 200 cs ((w.alloc o).alloc o') (by omega) (by omega) (by omega) (Kd.below h (HB.out o o')))
  obtain ⟨A0, c0, A1, c1, rfl, q0, q1, q2, q3, q4, q5⟩ := kFilter_open h
  clear h q0 q1 q2 q3 q4 q5
  go_enter Try.func8, Try.ntmps8
  go_wp2_with fail
  refine (HC _ _).out.mono ?_
  rintro e w2 ⟨r, rfl, ⟨h1, h2, h3⟩, hB⟩
  have HBB := Aside.mk (below_self (HB.out _ _) hB)
  have HE := Aside.mk (show okF dims meas x = decide (0 ≤ r) by
    unfold okF
    rw [Bool.eq_iff_iff, decide_eq_true_eq, h1, Bool.and_eq_true, decide_eq_true_eq]
    constructor
    · rintro ⟨a, b⟩; exact ⟨by omega, b⟩
    · rintro ⟨a, b⟩; exact ⟨by omega, b⟩)
  clear h1 h2 hB HC
  by_cases hr : r < 0
  · have HE2 := Aside.mk (show okF dims meas x = false by rw [HE.out]; simp; omega)
    clear HE
    go_wp2
    go_ret
    exact ⟨by rw [HE2.out]; rfl, HBB.out⟩
  · have HE2 := Aside.mk (show okF dims meas x = true by rw [HE.out]; simp; omega)
    have hb : decide (r < 0) = false := by simpa using hr
    clear HE
    go_wp2
    go_ret
    exact ⟨by rw [HE2.out]; rfl, HBB.out⟩
theorem schema_any (x : Fact) (cs : List Value) (w : World) (h : kFact.K w Any x cs) :
    Calls Try.prog 9 #[.agg cs.toArray] w fun e w' => e = .returned (.agg #[.int .i64 x.Dims.length, .int .i64 x.Meas.length]) ∧ Below w.heap.size w w' := by
  obtain ⟨A0, c0, A1, c1, rfl, q0, q1, q2⟩ := kFact_open h
  clear h q0 q1 q2
  go_enter Try.func9, Try.ntmps9
  go_wp2
  exact bodyPost_ret (v := .agg #[.int .i64 x.Dims.length, .int .i64 x.Meas.length]) (by simp [results, Try.results9, go_sem]) rfl ⟨rfl, below_alloc (below_alloc (Below.refl _ w) _) _⟩
end Go.Proofs.Ytddjbhphhhdnfaa.K
