/- The look at the grouping sets: rising, slices.IndexFunc over sets, at sets that rise. -/
import Derived.Test.YteleaflneejipaaDoorA3
import Derived.Test.YteleaflneejipaaDoorPQx0
namespace Go.Proofs.YteleaflneejipaaDoor
open Go.RowKit Go.Proofs.YteleaflneejipaaDoorW.PrintWords
set_option linter.unusedVariables false

/-- A set whose numbers rise, from above `was` on, below d. -/
def Rises (d : Int) (l : List Int) : Prop := ∀ (i : Nat) (h : i < l.length), l[i] < d ∧ (i = 0 → 0 ≤ l[i]) ∧ ∀ j (hj : j < l.length), i = j + 1 → l[j] < l[i]
def wasAt (l : List Int) (k : Nat) : Int := if k = 0 then -1 else l.getD (k - 1) 0
theorem wasAt_next {l : List Int} {k : Nat} (hk : k < l.length) : wasAt l (k + 1) = l[k] := by
  unfold wasAt
  rw [if_neg (by omega), Nat.add_sub_cancel, List.getD_eq_getElem?_getD, List.getElem?_eq_getElem hk]
  rfl
theorem was_lt {d : Int} {l : List Int} (hr : Rises d l) {k : Nat} (hk : k < l.length) : wasAt l k < l[k] ∧ l[k] < d := by
  obtain ⟨h1, h2, h3⟩ := hr k hk
  refine ⟨?_, h1⟩
  unfold wasAt
  split
  · rename_i h0
    have := h2 h0
    omega
  · rw [List.getD_eq_getElem?_getD, List.getElem?_eq_getElem (show k - 1 < l.length by omega)]
    exact h3 (k - 1) (by omega) (by omega)
theorem int_at {w : World} {A : Option Addr} {n : Nat} {xs : List Int} (h : Kd.C (Kd.int .i64) w A n xs) {i : Nat} (hi : i < xs.length) : ∃ ad, A = some ad ∧ w.cell? (ad.add i) = some (.int .i64 xs[i]) := by
  have hn : xs.length = n := h.1
  obtain ⟨ad, c, e, hx, hK, hc0⟩ := Kd.C_get h (0 : Int) (i : Int) (by omega) (by omega)
  have hc : ∀ j u, c[j]? = some u → w.cell? (ad.add ((i : Int).toNat * 1 + j)) = some u := hc0
  have hK : c = [.int .i64 xs[i]] := by
    have : rdOf (0 : Int) xs (i : Int) = xs[i] := by
      unfold rdOf
      rw [Int.toNat_natCast, List.getD_eq_getElem?_getD, List.getElem?_eq_getElem hi]
      rfl
    rw [← this]
    exact hK
  subst hK
  refine ⟨ad, e, ?_⟩
  have := hc 0 _ rfl
  rwa [Int.toNat_natCast, Nat.mul_one, Nat.add_zero] at this
set_option maxHeartbeats 2000000 in
theorem rising_ok (d m : Int) (l : List Int) (A : Option Addr) (c : Nat) (w : World) (h : Kd.C (Kd.int .i64) w A l.length l) (hc : l.length ≤ c) (hbig : l.length ≤ 8796093022208) (hr : Rises d l) :
    Calls Tryd.prog 32 #[.agg #[.int .i64 d, .int .i64 m], .slice A l.length c] w fun e w' => e = .returned (.bool true) ∧ Below w.heap.size w w' := by
  have HR := Aside0.mk hr
  have HC := Aside0.mk h
  clear h hr
  go_enter Tryd.func32, Tryd.ntmps32
  go_wp2
  go_loopg [5, 10] l.length (fun kq v5 v10 w' => ∃ i : Nat, v10 = .int .i64 i ∧ v5 = .int .i64 (wasAt l i) ∧ i + kq = l.length ∧ w' = w.alloc (.cells #[.int .i64 d, .int .i64 m] 31))
  case atStart => exact ⟨0, rfl, rfl, by omega, rfl⟩
  case round =>
    obtain ⟨i, rfl, rfl, hi, rfl⟩ := hrel
    have hc' := Kd.C_below HC.out (below_alloc (Below.refl w.heap.size w) (.cells #[.int .i64 d, .int .i64 m] 31))
    rcases Nat.lt_or_ge i l.length with hlt | hge
    · obtain ⟨ad, rfl, hcell⟩ := int_at hc' hlt
      obtain ⟨h1, h2⟩ := was_lt HR.out hlt
      have hw := wasAt_next hlt
      have n1 : ¬ l[i] ≤ wasAt l i := by omega
      have n2 : ¬ d ≤ l[i] := by omega
      have HW := Aside0.mk hw
      clear hc' hw h1 h2
      go_wp2
      go_roundg (gk - 1)
      case measure => omega
      case rel => exact ⟨i + 1, by go_num, by rw [HW.out], by omega, rfl⟩
    · have n1 : ¬ (i : Int) < (l.length : Int) := by omega
      go_wp2
      go_ret
      exact ⟨rfl, below_alloc (Below.refl _ _) _⟩
theorem rises_look (p : Nat) (d m : Int) (l : List Int) (A : Option Addr) (c : Nat) (w : World) (hp : w.heap[p]? = some (.cells #[.int .i64 d, .int .i64 m] 31 (0, 0))) (h : Kd.C (Kd.int .i64) w A l.length l) (hc : l.length ≤ c) (hbig : l.length ≤ 8796093022208) (hr : Rises d l) :
    Calls Tryd.prog 31 #[.slice A l.length c, .pointer (some ⟨p, 0, none⟩)] w fun e w' => e = .returned (.bool false) ∧ Below w.heap.size w w' := by
  have h0 : w.cell? ⟨p, 0, none⟩ = some (.int .i64 d) := (blk_cell hp 0).trans rfl
  have h1 : w.cell? ⟨p, 1, none⟩ = some (.int .i64 m) := (blk_cell hp 1).trans rfl
  have HC := Aside0.mk (rising_ok d m l A c w h hc hbig hr)
  clear h hr hp
  go_enter Tryd.func31, Tryd.ntmps31
  go_wp2_with (go_at_call 32; refine HC.out.mono ?_; rintro e w' ⟨rfl, hb⟩)
  go_ret
  exact ⟨rfl, hb⟩
def SetsFit (d : Int) (xs : List (List Int)) : Prop := ∀ l ∈ xs, l.length ≤ 8796093022208 ∧ Rises d l
set_option maxHeartbeats 2000000 in
theorem index_none (p : Nat) (d m : Int) (xs : List (List Int)) (A : Option Addr) (c : Nat) (w : World) (hp : w.heap[p]? = some (.cells #[.int .i64 d, .int .i64 m] 31 (0, 0))) (h : Kd.C (Kd.slice 3 (Kd.int .i64)) w A xs.length xs) (hc : xs.length ≤ c) (hbig : xs.length ≤ 8796093022208) (hr : SetsFit d xs) :
    Calls Tryd.prog 30 #[.slice A xs.length c, .func (.func 31) #[] #[.pointer (some ⟨p, 0, none⟩)]] w fun e w' => e = .returned (.int .i64 (-1)) ∧ Below w.heap.size w w' := by
  have HP := Aside0.mk hp
  have HR := Aside0.mk hr
  have HC := Aside0.mk h
  clear h hr hp
  go_enter Tryd.func30, Tryd.ntmps30
  go_wp2
  go_loopg [5, 8] xs.length (fun kq v5 v8 w' => ∃ i : Nat, v8 = .int .i64 i ∧ i + kq = xs.length ∧ Aside0 (Below w.heap.size w w'))
  case atStart => exact ⟨0, rfl, by omega, ⟨Below.refl _ _⟩⟩
  case round =>
    obtain ⟨i, rfl, hi, HB⟩ := hrel
    rcases Nat.lt_or_ge i xs.length with hlt | hge
    · obtain ⟨ad, A1, c1, rfl, hcell, hc1, hC1⟩ := PQ.at_L1 (Kd.C_below HC.out HB.out) (i : Int) (by omega) (by omega)
      have e1 : PQ.rd_L1 xs (i : Int) = xs[i] := by
        unfold PQ.rd_L1
        rw [Int.toNat_natCast, List.getD_eq_getElem?_getD, List.getElem?_eq_getElem hlt]
        rfl
      rw [e1] at hcell hc1 hC1
      rw [Int.toNat_natCast] at hcell
      have hf := HR.out xs[i] (List.getElem_mem hlt)
      have HL := Aside0.mk (rises_look p d m xs[i] A1 c1 _ (blk_below HP.out HB.out) hC1 hc1 hf.1 hf.2)
      clear hC1 hf e1
      go_wp2_with fail
      refine HL.out.mono ?_
      rintro e w2 ⟨rfl, hb⟩
      have HB2 := Aside0.mk (below_step HB.out hb)
      clear hb HL
      go_wp2
      go_roundg (gk - 1)
      case measure => omega
      case rel => exact ⟨i + 1, by go_num, by omega, HB2⟩
    · have n1 : ¬ (i : Int) < (xs.length : Int) := by omega
      go_wp2
      go_ret
      exact ⟨rfl, HB.out⟩
theorem look6 (p q : Nat) (d m : Int) (xs : List (List Int)) (A : Option Addr) (c : Nat) (w : World) (hp : w.heap[p]? = some (.cells #[.int .i64 d, .int .i64 m] 31 (0, 0))) (hq : w.heap[q]? = some (.cells (qCells (.slice A xs.length c)) 40 (0, 0))) (h : Kd.C (Kd.slice 3 (Kd.int .i64)) w A xs.length xs) (hc : xs.length ≤ c) (hbig : xs.length ≤ 8796093022208) (hr : SetsFit d xs) :
    Calls Tryd.prog 29 #[.pointer (some ⟨q, 0, none⟩), .pointer (some ⟨p, 0, none⟩)] w fun e w' => e = .returned (.int .i64 (-1)) ∧ Below w.heap.size w w' := by
  have h0 : w.cell? ⟨q, 9, none⟩ = some (.slice A xs.length c) := (blk_cell hq 9).trans rfl
  have hmf := mkFunc
  have HC := Aside0.mk (index_none p d m xs A c w hp h hc hbig hr)
  clear h hr hp hq
  go_enter Tryd.func29, Tryd.ntmps29
  go_wp2_with (go_at_call 30; refine HC.out.mono ?_; rintro e w' ⟨rfl, hb⟩)
  go_ret
  exact ⟨rfl, hb⟩
end Go.Proofs.YteleaflneejipaaDoor
