/- Whether two filters are the same; the contracts of slices.EqualFunc over filters and of filter.Same's closure: no condition but small numbers. -/
import Derived.Test.YtddjbhphhhdnfaaG12
import Derived.Test.YtddjbhphhhdnfaaG10
namespace Go.Proofs.Ytddjbhphhhdnfaa.K
open Go.RowKit
set_option linter.unusedVariables false
set_option linter.unusedSimpArgs false

def sameF (x y : Filter) : Bool := likeF x y && (decide ((kidsOf x).length = (kidsOf y).length) && ((kidsOf x).attach.zip (kidsOf y)).all fun p => sameF p.1.1 p.2)
termination_by ht x
decreasing_by exact ht_kid p.1.2
theorem zipAll_zip {α : Type} (p : α → α → Bool) : ∀ x y : List α, zipAll p x y = (decide (x.length = y.length) && (x.zip y).all fun q => p q.1 q.2)
  | [], [] => rfl
  | [], _ :: _ => rfl
  | _ :: _, [] => rfl
  | a :: x, b :: y => by
    simp only [zipAll, zipAll_zip p x y, List.zip_cons_cons, List.all_cons, List.length_cons, Nat.add_right_cancel_iff]
    cases p a b <;> simp
theorem all_zip_attach {α : Type} (p : α → α → Bool) (l m : List α) : ((l.attach.zip m).all fun q => p q.1.1 q.2) = ((l.zip m).all fun q => p q.1 q.2) := by
  have h : l.zip m = (l.attach.zip m).map fun q => (q.1.1, q.2) := by
    conv => lhs; rw [← List.attach_map_subtype_val l]
    rw [List.zip_map_left]
    rfl
  rw [h, List.all_map]
  rfl
theorem sameF_eq (x y : Filter) : sameF x y = (likeF x y && zipAll sameF (kidsOf x) (kidsOf y)) := by
  rw [sameF, zipAll_zip, all_zip_attach sameF]

/-- All blocks but L are as they were. -/
def Frm (L : Nat) (w w' : World) : Prop := w.heap.size ≤ w'.heap.size ∧ ∀ k, k < w.heap.size → k ≠ L → w'.heap[k]? = w.heap[k]?
theorem Frm.refl (L : Nat) (w : World) : Frm L w w := ⟨Nat.le_refl _, fun _ _ _ => rfl⟩
theorem Frm.trans {L : Nat} {w1 w2 w3 : World} (h : Frm L w1 w2) (k : Frm L w2 w3) : Frm L w1 w3 := ⟨Nat.le_trans h.1 k.1, fun j hj hne => (k.2 j (Nat.lt_of_lt_of_le hj h.1) hne).trans (h.2 j hj hne)⟩
theorem Frm.of_below {L : Nat} {w w' : World} (h : Below w.heap.size w w') : Frm L w w' := ⟨h.size, fun k hk _ => h.block k hk⟩
theorem Frm.blk {L g : Nat} {w w' : World} {o : Obj} (h : Frm L w w') (hg : w.heap[g]? = some o) (hne : g ≠ L) : w'.heap[g]? = some o := (h.2 g (blk_lt hg) hne).trans hg
theorem Frm.alloc (L : Nat) (w : World) (o : Obj) : Frm L w (w.alloc o) := Frm.of_below (below_alloc (Below.refl _ w) o)
theorem Frm.set (L : Nat) (w : World) (i : Nat) (v : Value) : Frm L w (w.setCell ⟨L, i, none⟩ v) := ⟨by rw [set_size]; exact Nat.le_refl _, fun k _ hne => set_other hne⟩

def SamePost (b : Bool) (s left : Int) (w0 : World) (L : Nat) (w : World) (e : Ending) (w' : World) : Prop :=
  ∃ l, e = .returned (.bool b) ∧ left - s ≤ l ∧ l ≤ left ∧ w'.heap[L]? = some (.cells #[.int .i64 l] 3 (0, 0)) ∧ Below w0.heap.size w0 w' ∧ Frm L w w'
/-- What the closure is known to tell. -/
def CloAt (w0 : World) (L B : Nat) (ks : List Filter) : Prop := ∀ k ∈ ks, ∀ (y : Filter) (left : Int) cs ds W, (size k : Int) ≤ left → left ≤ 1000 → kFilter.K w0 Any k cs → kFilter.K w0 Any y ds → Below w0.heap.size w0 W →
  W.heap[L]? = some (.cells #[.int .i64 left] 3 (0, 0)) → W.heap[B]? = some (.cells #[.pointer (some ⟨L, 0, none⟩)] 43 (0, 0)) → Calls Try.prog 44 (#[.agg cs.toArray, .agg ds.toArray] ++ #[.pointer (some ⟨B, 0, none⟩)]) W (SamePost (sameF k y) (size k) left w0 L W)
theorem enters44 : ∀ args w, (callFunc 44 args).run Try.prog w = .ok (.enter 44 args) w := enters_of Try.func44 (by kernel_rfl) rfl

set_option maxHeartbeats 4000000 in
theorem equalFunc_any (w0 : World) (L B : Nat) (hL : w0.heap.size ≤ L) (hLB : B ≠ L) (xs ys : List Filter) (A A' : Option Addr) (c d : Nat) (left : Int) (w : World) (h : kFilter.C w0 Any A xs.length xs) (h2 : kFilter.C w0 Any A' ys.length ys) (hs : (sizes xs : Int) ≤ left) (hl : left ≤ 1000) (hB : Below w0.heap.size w0 w)
    (hb : w.heap[L]? = some (.cells #[.int .i64 left] 3 (0, 0))) (hp : w.heap[B]? = some (.cells #[.pointer (some ⟨L, 0, none⟩)] 43 (0, 0))) (hg : CloAt w0 L B xs) :
    Calls Try.prog 43 #[.slice A xs.length c, .slice A' ys.length d, .func (.func 44) #[] #[.pointer (some ⟨B, 0, none⟩)]] w (SamePost (zipAll sameF xs ys) (sizes xs) left w0 L w) := by
  have hn := h.2.1
  have hm := h2.2.1
  have HC := Aside.mk h
  have HD := Aside.mk h2
  have HG := Aside.mk hg
  have HB := Aside.mk hB
  have HL := Aside.mk hb
  have HP := Aside.mk hp
  have eg := enters44
  have hpos : 0 ≤ left := by omega
  clear h h2 hg hB hb hp
  by_cases hlen : xs.length = ys.length
  · have HLEN := Aside.mk hlen
    rw [← hlen]
    clear hlen hm
    go_enter Try.func43, Try.ntmps43
    go_wp2
    go_loopw [7, 17] (fun z i wr => ∃ (k : Nat) (l : Int), k ≤ xs.length ∧ i = .int .i64 k ∧ left - sizes (xs.take k) ≤ l ∧ l ≤ left ∧ Aside (wr.heap[L]? = some (.cells #[.int .i64 l] 3 (0, 0))) ∧ Aside (Below w0.heap.size w0 wr) ∧ Aside (Frm L w wr) ∧ Aside (∀ j (hj : j < k) (hx : j < xs.length) (hy : j < ys.length), sameF xs[j] ys[j] = true)) (fun z i _ => xs.length - (intOf i).toNat)
    case atStart => exact ⟨0, left, Nat.zero_le _, rfl, by simp [sizes], Int.le_refl _, HL, HB, ⟨Frm.refl _ _⟩, ⟨fun j hj => absurd hj (Nat.not_lt_zero _)⟩⟩
    case round =>
      obtain ⟨k, l, hk, rfl, hl1, hl2, HLR, HBR, HFR, HALL⟩ := hrel
      by_cases hlt : k < xs.length
      · have hni : (k : Int) < (xs.length : Int) := by omega
        have hly : k < ys.length := by rw [← HLEN.out]; exact hlt
        obtain ⟨ad, E0, f0, E1, f1, hA, hFF, hla, m0, m1, m2, m3, m4, m5, hK⟩ := kFilter_at HC.out HBR.out hlt
        subst hA
        obtain ⟨bd, G0, g0, G1, g1, hA2, hFF2, hla2, n0, n1, n2, n3, n4, n5, hK2⟩ := kFilter_at HD.out HBR.out hly
        subst hA2
        have hsz := sizes_take_succ hlt
        have hsl := sizes_take_le xs (k + 1)
        have HI := Aside.mk (fun o o' => HG.out xs[k] (List.getElem_mem hlt) ys[k] l _ _ ((wr.alloc o).alloc o') (by omega) (by omega) hK hK2 ((HBR.out.alloc HBR.out.size o).alloc (by have := HBR.out.size; simp; omega) o') (blk_alloc (blk_alloc HLR.out o) o') (blk_alloc (blk_alloc (HFR.out.blk HP.out hLB) o) o'))
        have hz : ∀ o, (wr.alloc o).heap.size = wr.heap.size + 1 := fun o => by simp
        have n0' := fun o => ((below_alloc (Below.refl _ wr) o).cell (World.block_lt_of_cell? wr _ n0)).trans n0
        have n1' := fun o => ((below_alloc (Below.refl _ wr) o).cell (World.block_lt_of_cell? wr _ n1)).trans n1
        have n2' := fun o => ((below_alloc (Below.refl _ wr) o).cell (World.block_lt_of_cell? wr _ n2)).trans n2
        have n3' := fun o => ((below_alloc (Below.refl _ wr) o).cell (World.block_lt_of_cell? wr _ n3)).trans n3
        have n4' := fun o => ((below_alloc (Below.refl _ wr) o).cell (World.block_lt_of_cell? wr _ n4)).trans n4
        have n5' := fun o => ((below_alloc (Below.refl _ wr) o).cell (World.block_lt_of_cell? wr _ n5)).trans n5
        have HLY := Aside.mk hly
        have HHL := Aside.mk (And.intro hsz hsl)
        clear hK hK2 hFF hFF2 hla hla2 hsz hsl n0 n1 n2 n3 n4 n5
        by_cases hv : sameF xs[k] ys[k] = true
        · rw [hv] at HI
          have HV := Aside.mk hv
          clear hv
          go_wp2_with fail
          refine (HI.out _ _).mono ?_
          clear n0' n1' n2' n3' n4' n5' m0 m1 m2 m3 m4 m5
          rintro e w5 ⟨l2, rfl, hl3, hl4, hL5, hB5, hF5⟩
          have HL5 := Aside.mk hL5
          have HB5 := Aside.mk hB5
          have HF5 := Aside.mk (HFR.out.trans (((Frm.alloc L wr _).trans (Frm.alloc L _ _)).trans hF5))
          clear hL5 hB5 hF5
          go_wp2
          go_roundw
          case rel =>
            obtain ⟨hsz, hsl⟩ := HHL.out
            refine ⟨k + 1, l2, by omega, by go_num, by omega, by omega, HL5, HB5, HF5, ⟨fun j hj hx hy => ?_⟩⟩
            rcases Nat.lt_or_ge j k with h1 | h1
            · exact HALL.out j h1 hx hy
            · obtain rfl : j = k := by omega
              exact HV.out
          case measure => simp [intOf]; omega
        · have hv0 : sameF xs[k] ys[k] = false := by simpa using hv
          rw [hv0] at HI
          have HV := Aside.mk hv0
          clear hv hv0
          go_wp2_with fail
          refine (HI.out _ _).mono ?_
          clear n0' n1' n2' n3' n4' n5' m0 m1 m2 m3 m4 m5
          rintro e w5 ⟨l2, rfl, hl3, hl4, hL5, hB5, hF5⟩
          have HL5 := Aside.mk hL5
          have HB5 := Aside.mk hB5
          have HF5 := Aside.mk (HFR.out.trans (((Frm.alloc L wr _).trans (Frm.alloc L _ _)).trans hF5))
          clear hL5 hB5 hF5
          go_wp2
          go_ret
          obtain ⟨hsz, hsl⟩ := HHL.out
          exact ⟨l2, ret_bool (zipAll_no hlt HLY.out HV.out).symm, by omega, by omega, HL5.out, HB5.out, HF5.out⟩
      · have hni : ¬ (k : Int) < (xs.length : Int) := by omega
        have hkk : k = xs.length := by omega
        go_wp2
        go_ret
        subst hkk
        rw [List.take_length] at hl1
        exact ⟨l, ret_bool (zipAll_yes HLEN.out (fun j hx hy => HALL.out j hx hx hy)).symm, hl1, hl2, HLR.out, HBR.out, HFR.out⟩
  · have hlb : ((xs.length : Int) == (ys.length : Int)) = false := by simp; omega
    have hne : ¬ (xs.length : Int) = (ys.length : Int) := by omega
    have HLN := Aside.mk hlen
    clear hlen
    go_enter Try.func43, Try.ntmps43
    go_wp2
    go_ret
    exact ⟨left, ret_bool (zipAll_len HLN.out).symm, by omega, by omega, HL.out, HB.out, Frm.refl _ _⟩
end Go.Proofs.Ytddjbhphhhdnfaa.K
