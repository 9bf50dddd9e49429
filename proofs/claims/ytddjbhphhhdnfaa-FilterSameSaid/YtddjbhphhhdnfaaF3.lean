/- The contract of filter.count: no condition but small numbers. -/
import Derived.Test.YtddjbhphhhdnfaaF2
namespace Go.Proofs.Ytddjbhphhhdnfaa.K
open Go.RowKit
set_option linter.unusedVariables false

def CountPost (fine : Filter → Int → Bool) (x : Filter) (d left : Int) (w0 : World) (L : Nat) (w : World) (e : Ending) (w' : World) : Prop :=
  ∃ b l, e = .returned (.bool b) ∧ Cnt fine x d left b l ∧ w'.heap[L]? = some (.cells #[.int .i64 l] 3 (0, 0)) ∧ Below w0.heap.size w0 w' ∧ w.heap.size ≤ w'.heap.size

/-- A function value that tells whether a part is fine at a depth, in all worlds behind w0. -/
def FineAt (g : Nat) (cb : Array Value) (fine : Filter → Int → Bool) (w0 : World) : Prop :=
  ∀ x cs (d : Int) W, 0 ≤ d → d ≤ 1000 → kFilter.K w0 Any x cs → Below w0.heap.size w0 W → Calls Try.prog g (#[.agg cs.toArray, .int .i64 d] ++ cb) W fun e W' => e = .returned (.bool (fine x d)) ∧ Below W.heap.size W W'

set_option maxHeartbeats 2000000 in
theorem count_any (g : Nat) (cb : Array Value) (eg : ∀ args w, (callFunc g args).run Try.prog w = .ok (.enter g args) w) (fine : Filter → Int → Bool) (w0 : World) (L : Nat) (hL : w0.heap.size ≤ L) (hg : FineAt g cb fine w0) :
    ∀ n x, ht x ≤ n → ∀ (d left : Int) (cs : List Value) (w : World), 0 ≤ d → 0 ≤ left → d + left ≤ 1000 → kFilter.K w0 Any x cs → Below w0.heap.size w0 w → w.heap[L]? = some (.cells #[.int .i64 left] 3 (0, 0)) →
    Calls Try.prog 19 #[.agg cs.toArray, .int .i64 d, .pointer (some ⟨L, 0, none⟩), .func (.func g) #[] cb] w (CountPost fine x d left w0 L w) := by
  intro n
  induction n with
  | zero => intro x hx; rw [ht_eq] at hx; omega
  | succ n ih =>
    intro x hx d left cs w hd0 hl0 hdl hK hB hb
    have HB := Aside.mk hB
    have HKx := Aside.mk hK
    have HL := Aside.mk hb
    have HG := Aside.mk hg
    have hLw : L < w.heap.size := blk_lt hb
    have hcL : (w.alloc (.cells cs.toArray 25)).cell? ⟨L, 0, none⟩ = some (.int .i64 left) := by rw [blk_cell (blk_alloc hb _)]; rfl
    have hfL : (w.alloc (.cells cs.toArray 25)).frozen? ⟨L, 0, none⟩ = false := blk_frozen (blk_alloc hb _) 0
    clear hB hb hg
    obtain ⟨A0, c0, A1, c1, rfl, q0, q1, q2, q3, q4, q5⟩ := kFilter_open hK
    clear hK q0 q1 q2 q3 q4 q5
    have HL2 : ∀ o, ((w.setCell ⟨L, 0, none⟩ (.int .i64 (left - 1))).alloc o).heap[L]? = some (.cells #[.int .i64 (left - 1)] 3 (0, 0)) := fun o => blk_alloc (blk_set HL.out 0 _) o
    have hcL2 : ∀ o, ((w.setCell ⟨L, 0, none⟩ (.int .i64 (left - 1))).alloc o).cell? ⟨L, 0, none⟩ = some (.int .i64 (left - 1)) := fun o => by rw [blk_cell (HL2 o)]; rfl
    have HB2 : ∀ o, Aside (Below w0.heap.size w0 ((w.setCell ⟨L, 0, none⟩ (.int .i64 (left - 1))).alloc o)) := fun o => ⟨(HB.out.setCell hL _).alloc (by simp [World.setCell]; exact HB.out.size) o⟩
    have HL2' := fun o => Aside.mk (HL2 o)
    clear HL2
    by_cases h1 : left < 1
    · have hlt : left - 1 < 0 := by omega
      go_enter Try.func19, Try.ntmps19
      go_wp2
      go_ret
      exact ⟨false, left - 1, rfl, Cnt_none h1 hl0, (HL2' _).out, (HB2 _).out, by simp [World.setCell]⟩
    · have hge : ¬ left - 1 < 0 := by omega
      have HF := fun o => Aside.mk (HG.out x _ d ((w.setCell ⟨L, 0, none⟩ (.int .i64 (left - 1))).alloc o) hd0 (by omega) HKx.out (HB2 o).out)
      by_cases hf : fine x d = true
      · rw [hf] at HF
        have HFT := Aside.mk hf
        clear hf
        go_enter Try.func19, Try.ntmps19
        go_wp2_with fail
        refine (HF _).out.mono ?_
        rintro e w2 ⟨rfl, hb2⟩
        have HB3 := Aside.mk (below_then (HB2 _).out hb2 (HB2 _).out.size)
        have HL3 := Aside.mk (blk_below (HL2' _).out hb2)
        have hbox : w2.heap[w.heap.size]? = some (.cells #[.int .i64 x.Kind, .int .i64 x.Dim, .slice A0 x.Texts.length c0, .int .i64 x.Lo, .int .i64 x.Hi, .slice A1 x.Kids.length c1] 25 (0, 0)) := by
          refine blk_below ?_ hb2
          have := blk_new (w.setCell ⟨L, 0, none⟩ (.int .i64 (left - 1))) (.cells #[.int .i64 x.Kind, .int .i64 x.Dim, .slice A0 x.Texts.length c0, .int .i64 x.Lo, .int .i64 x.Hi, .slice A1 x.Kids.length c1] 25 (0, 0))
          simpa [World.setCell] using this
        have hsz : w.heap.size ≤ w2.heap.size := by have := hb2.size; simp [World.setCell] at this; omega
        have i0 := (blk_cell hbox 0).trans rfl
        have i1 := (blk_cell hbox 1).trans rfl
        have i2 := (blk_cell hbox 2).trans rfl
        have i3 := (blk_cell hbox 3).trans rfl
        have i4 := (blk_cell hbox 4).trans rfl
        have i5 := (blk_cell hbox 5).trans rfl
        clear hb2 hbox hcL hfL hcL2
        have hkk := kids_any x _ w2 (fun k => k < w0.heap.size) (kFilter.mono (fun _ hk => hk.2) (kFilter.move (fun k hk _ => HB3.out.block k hk.2) (kFilter.lt HKx.out)))
        have HKK := Aside.mk hkk
        clear hkk
        go_wp2_with fail
        refine HKK.out.mono ?_
        rintro e w3 ⟨A, c, rfl, hlc, hC, hb3⟩
        have HB4 := Aside.mk (below_then HB3.out hb3 HB3.out.size)
        have HC := Aside.mk (Kd.C_any (Kd.C_move (w1 := w0) (fun k hk _ => (HB4.out.block k hk).symm) hC))
        have HL4 := Aside.mk (blk_below HL3.out hb3)
        have hsz3 : w.heap.size ≤ w3.heap.size := Nat.le_trans hsz hb3.size
        have hn := hC.2.1
        clear i0 i1 i2 i3 i4 i5 hC hb3 HKK
        go_wp2
        go_loopw [30] (fun i wr => ∃ k : Nat, k ≤ (kidsOf x).length ∧ i = .int .i64 k ∧ Below w0.heap.size w0 wr ∧ w.heap.size ≤ wr.heap.size ∧ 0 ≤ left - 1 - sizes ((kidsOf x).take k) ∧ wr.heap[L]? = some (.cells #[.int .i64 (left - 1 - sizes ((kidsOf x).take k))] 3 (0, 0)) ∧ ∀ j (hj : j < k) (hx : j < (kidsOf x).length), allF fine (kidsOf x)[j] (d + 1) = true) (fun i _ => (kidsOf x).length - (intOf i).toNat)
        case atStart => exact ⟨0, Nat.zero_le _, rfl, HB4.out, hsz3, by simp [sizes]; omega, by simpa [sizes] using HL4.out, fun j hj => absurd hj (Nat.not_lt_zero _)⟩
        case round =>
          obtain ⟨k, hk, rfl, hbr, hszr, hl0r, hLr, hall⟩ := hrel
          have HBR := Aside.mk hbr
          have HLR := Aside.mk hLr
          have HALL := Aside.mk hall
          clear hbr hLr hall
          by_cases hlt : k < (kidsOf x).length
          · obtain ⟨ad, B0, d0, B1, d1, hA, hFF, hl, m0, m1, m2, m3, m4, m5, hK⟩ := kFilter_at HC.out HBR.out hlt
            subst hA
            have HI := fun o => Aside.mk (ih (kidsOf x)[k] (by have := ht_kid (List.getElem_mem hlt); omega) (d + 1) (left - 1 - sizes ((kidsOf x).take k)) _ (wr.alloc o) (by omega) hl0r (by omega) hK (HBR.out.alloc HBR.out.size o) (blk_alloc HLR.out o))
            clear hK
            go_wp2_with fail
            refine (HI _).out.mono ?_
            rintro e w5 ⟨b, l, rfl, hcnt, hL5, hB5, hs5⟩
            have HCN := Aside.mk hcnt
            have HL5 := Aside.mk hL5
            have HB5 := Aside.mk hB5
            have hs6 : w.heap.size ≤ w5.heap.size := by simp at hs5; omega
            clear hcnt hL5 hB5 hs5 m0 m1 m2 m3 m4 m5 HI
            cases b with
            | false =>
              go_wp2
              go_ret
              exact ⟨false, l, rfl, Cnt_kid hlt rfl HCN.out, HL5.out, HB5.out, hs6⟩
            | true =>
              go_wp2
              go_roundw
              case rel =>
                have h1 := HCN.out.1.1 rfl
                have h2 := HCN.out.2.1 rfl
                have h3 := sizes_take_succ hlt
                refine ⟨k + 1, by omega, by go_num, HB5.out, hs6, by omega, ?_, fun j hj hx => ?_⟩
                · have e : left - 1 - (sizes ((kidsOf x).take k) : Int) - (size (kidsOf x)[k] : Int) = left - 1 - (sizes ((kidsOf x).take (k + 1)) : Int) := by omega
                  rw [HL5.out, h2, e]
                · rcases Nat.lt_or_ge j k with h | h
                  · exact HALL.out j h hx
                  · obtain rfl : j = k := by omega
                    exact h1.2
              case measure => simp [intOf]; omega
          · have hkk : k = (kidsOf x).length := by omega
            subst hkk
            go_wp2
            go_ret
            refine ⟨true, _, rfl, Cnt_all ?_ HFT.out (fun j hj => HALL.out j hj hj), ?_, HBR.out, hszr⟩
            · rw [List.take_length] at hl0r; exact hl0r
            · have := HLR.out; rw [List.take_length] at this; exact this
      · have hf0 : fine x d = false := by simpa using hf
        rw [hf0] at HF
        have HFT := Aside.mk hf0
        clear hf hf0
        go_enter Try.func19, Try.ntmps19
        go_wp2_with fail
        refine (HF _).out.mono ?_
        rintro e w2 ⟨rfl, hb2⟩
        go_wp2
        go_ret
        exact ⟨false, left - 1, rfl, Cnt_bad (by omega) HFT.out, blk_below (HL2' _).out hb2, below_then (HB2 _).out hb2 (HB2 _).out.size, by have := hb2.size; simp [World.setCell] at this; omega⟩
end Go.Proofs.Ytddjbhphhhdnfaa.K
