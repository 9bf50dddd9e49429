/- The looks of query.Check, each by a contract, at the query that the law asks with. -/
import Derived.Test.YteleaflneejipaaDoorWWords
import Derived.Test.YteleaflneejipaaDoorWLast
import Derived.Test.YteleaflneejipaaDoorProg
import Derived.WalkKit
import Derived.RowKit
import Derived.Below
import Derived.Tactics
namespace Go.Proofs.YteleaflneejipaaDoor
open Go.RowKit Go.Proofs.YteleaflneejipaaDoorW.PrintWords
set_option linter.unusedVariables false

def fVal : Value := .agg #[.int .i64 1, .int .i64 0, .slice none 0 0, .int .i64 0, .int .i64 0, .slice none 0 0]
def qCells (sv : Value) : Array Value := #[.int .i64 0, .int .i64 0, .int .i64 1, .int .i64 0, .slice none 0 0, .int .i64 0, .int .i64 0, .slice none 0 0, .int .i64 0, sv, .slice none 0 0, .int .i64 1, .int .i64 0]

theorem may_all (d m : Int) (w : World) : Calls Tryd.prog 49 #[.agg #[.int .i64 d, .int .i64 m], fVal] w fun e w' => e = .returned (.bool true) ∧ Below w.heap.size w w' := by
  unfold fVal
  go_enter Tryd.func49, Tryd.ntmps49
  go_wp2
  go_ret
  exact ⟨rfl, below_alloc (below_alloc (Below.refl _ _) _) _⟩
theorem kids_all (w : World) : Calls Tryd.prog 56 #[fVal] w fun e w' => e = .returned (.slice none 0 0) ∧ Below w.heap.size w w' := by
  unfold fVal
  go_enter Tryd.func56, Tryd.ntmps56
  go_wp2
  go_ret
  exact ⟨rfl, below_alloc (Below.refl _ _) _⟩
theorem look1 (p : Nat) (d m : Int) (w : World) (hp : w.heap[p]? = some (.cells #[.int .i64 d, .int .i64 m] 31 (0, 0))) (hd : 0 ≤ d ∧ d ≤ 8) (hm : 0 ≤ m ∧ m ≤ 8) :
    Calls Tryd.prog 20 #[.pointer (some ⟨p, 0, none⟩)] w fun e w' => e = .returned (.int .i64 (-1)) ∧ Below w.heap.size w w' := by
  have h0 : w.cell? ⟨p, 0, none⟩ = some (.int .i64 d) := (blk_cell hp 0).trans rfl
  have h1 : w.cell? ⟨p, 1, none⟩ = some (.int .i64 m) := (blk_cell hp 1).trans rfl
  have n1 : ¬ d < 0 := by omega
  have n2 : ¬ d > 8 := by omega
  have n3 : ¬ m < 0 := by omega
  have n4 : ¬ m > 8 := by omega
  go_enter Tryd.func20, Tryd.ntmps20
  go_wp2
  go_ret
  exact ⟨rfl, below_alloc (Below.refl _ _) _⟩
theorem mkFunc (fn : Fn) (first cap : Array Value) (w : World) : (Instr.makeFunc fn first cap).run Tryd.prog w = .ok (.func fn first cap) w := rfl
theorem look2 (q : Nat) (sv : Value) (w : World) (hq : w.heap[q]? = some (.cells (qCells sv) 40 (0, 0))) :
    Calls Tryd.prog 23 #[.pointer (some ⟨q, 0, none⟩)] w fun e w' => e = .returned (.int .i64 (-1)) ∧ Below w.heap.size w w' := by
  have h0 : w.cell? ⟨q, 0, none⟩ = some (.int .i64 0) := (blk_cell hq 0).trans rfl
  have h1 : w.cell? ⟨q, 1, none⟩ = some (.int .i64 0) := (blk_cell hq 1).trans rfl
  go_enter Tryd.func23, Tryd.ntmps23
  go_wp2
  go_ret
  exact ⟨rfl, Below.refl _ _⟩
theorem look4 (q : Nat) (sv : Value) (w : World) (hq : w.heap[q]? = some (.cells (qCells sv) 40 (0, 0))) :
    Calls Tryd.prog 27 #[.pointer (some ⟨q, 0, none⟩)] w fun e w' => e = .returned (.int .i64 (-1)) ∧ Below w.heap.size w w' := by
  have h0 : w.cell? ⟨q, 8, none⟩ = some (.int .i64 0) := (blk_cell hq 8).trans rfl
  go_enter Tryd.func27, Tryd.ntmps27
  go_wp2
  go_ret
  exact ⟨rfl, Below.refl _ _⟩
theorem look5 (q : Nat) (A : Option Addr) (n c : Nat) (hn : 1 ≤ n ∧ n ≤ 64) (w : World) (hq : w.heap[q]? = some (.cells (qCells (.slice A n c)) 40 (0, 0))) :
    Calls Tryd.prog 28 #[.pointer (some ⟨q, 0, none⟩)] w fun e w' => e = .returned (.int .i64 (-1)) ∧ Below w.heap.size w w' := by
  have h0 : w.cell? ⟨q, 9, none⟩ = some (.slice A n c) := (blk_cell hq 9).trans rfl
  have n1 : ¬ (n : Int) < 1 := by omega
  have n2 : ¬ (n : Int) > 64 := by omega
  go_enter Tryd.func28, Tryd.ntmps28
  go_wp2
  go_ret
  exact ⟨rfl, Below.refl _ _⟩
theorem look5_none (q : Nat) (A : Option Addr) (c : Nat) (w : World) (hq : w.heap[q]? = some (.cells (qCells (.slice A 0 c)) 40 (0, 0))) :
    Calls Tryd.prog 28 #[.pointer (some ⟨q, 0, none⟩)] w fun e w' => e = .returned (.int .i64 0) ∧ Below w.heap.size w w' := by
  have h0 : w.cell? ⟨q, 9, none⟩ = some (.slice A 0 c) := (blk_cell hq 9).trans rfl
  go_enter Tryd.func28, Tryd.ntmps28
  go_wp2
  go_ret
  exact ⟨rfl, Below.refl _ _⟩
theorem look7 (q : Nat) (sv : Value) (w : World) (hq : w.heap[q]? = some (.cells (qCells sv) 40 (0, 0))) :
    Calls Tryd.prog 33 #[.pointer (some ⟨q, 0, none⟩)] w fun e w' => e = .returned (.int .i64 (-1)) ∧ Below w.heap.size w w' := by
  have h0 : w.cell? ⟨q, 10, none⟩ = some (.slice none 0 0) := (blk_cell hq 10).trans rfl
  go_enter Tryd.func33, Tryd.ntmps33
  go_wp2
  go_ret
  exact ⟨rfl, Below.refl _ _⟩
theorem look9 (q : Nat) (sv : Value) (w : World) (hq : w.heap[q]? = some (.cells (qCells sv) 40 (0, 0))) :
    Calls Tryd.prog 38 #[.pointer (some ⟨q, 0, none⟩)] w fun e w' => e = .returned (.int .i64 (-1)) ∧ Below w.heap.size w w' := by
  have h0 : w.cell? ⟨q, 11, none⟩ = some (.int .i64 1) := (blk_cell hq 11).trans rfl
  go_enter Tryd.func38, Tryd.ntmps38
  go_wp2
  go_ret
  exact ⟨rfl, Below.refl _ _⟩
theorem look10 (q : Nat) (sv : Value) (w : World) (hq : w.heap[q]? = some (.cells (qCells sv) 40 (0, 0))) :
    Calls Tryd.prog 39 #[.pointer (some ⟨q, 0, none⟩)] w fun e w' => e = .returned (.int .i64 (-1)) ∧ Below w.heap.size w w' := by
  have h0 : w.cell? ⟨q, 12, none⟩ = some (.int .i64 0) := (blk_cell hq 12).trans rfl
  go_enter Tryd.func39, Tryd.ntmps39
  go_wp2
  go_ret
  exact ⟨rfl, Below.refl _ _⟩
theorem look8 (q p : Nat) (sv : Value) (w : World) (hq : w.heap[q]? = some (.cells (qCells sv) 40 (0, 0))) :
    Calls Tryd.prog 34 #[.pointer (some ⟨q, 0, none⟩), .pointer (some ⟨p, 0, none⟩)] w fun e w' => e = .returned (.int .i64 (-1)) ∧ Below w.heap.size w w' := by
  have h0 : w.cell? ⟨q, 10, none⟩ = some (.slice none 0 0) := (blk_cell hq 10).trans rfl
  have hmf := mkFunc
  go_enter Tryd.func34, Tryd.ntmps34
  go_wp2
  refine wp_loop_rounds 1 ?_
  rw [rounds_succ]
  go_wp2
  go_ret
  exact ⟨rfl, Below.refl _ _⟩
theorem fine_all (p : Nat) (d m : Int) (w : World) (hp : w.heap[p]? = some (.cells #[.int .i64 d, .int .i64 m] 31 (0, 0))) :
    Calls Tryd.prog 48 #[fVal, .int .i64 1, .pointer (some ⟨p, 0, none⟩)] w fun e w' => e = .returned (.bool true) ∧ Below w.heap.size w w' := by
  have h0 : (w.alloc (.cells #[.int .i64 1, .int .i64 0, .slice none 0 0, .int .i64 0, .int .i64 0, .slice none 0 0] 35)).cell? ⟨p, 0, none⟩ = some (.int .i64 d) := (blk_cell (blk_alloc hp _) 0).trans rfl
  have h1 : (w.alloc (.cells #[.int .i64 1, .int .i64 0, .slice none 0 0, .int .i64 0, .int .i64 0, .slice none 0 0] 35)).cell? ⟨p, 1, none⟩ = some (.int .i64 m) := (blk_cell (blk_alloc hp _) 1).trans rfl
  have hm := may_all d m
  unfold fVal at hm ⊢
  go_enter Tryd.func48, Tryd.ntmps48
  go_wp2_with (go_at_call 49; refine (hm _).mono ?_; rintro e w' ⟨rfl, hb⟩)
  go_ret
  exact ⟨rfl, below_step (below_alloc (Below.refl _ _) _) hb⟩
def fCells : Array Value := #[.int .i64 1, .int .i64 0, .slice none 0 0, .int .i64 0, .int .i64 0, .slice none 0 0]
theorem count_all (p L : Nat) (d m : Int) (w0 w : World) (hB : Below w0.heap.size w0 w) (h0L : w0.heap.size ≤ L) (hp : w.heap[p]? = some (.cells #[.int .i64 d, .int .i64 m] 31 (0, 0))) (hL : w.heap[L]? = some (.cells #[.int .i64 200] 3 (0, 0))) (hne : p ≠ L) :
    Calls Tryd.prog 47 #[fVal, .int .i64 1, .pointer (some ⟨L, 0, none⟩), .func (.func 48) #[] #[.pointer (some ⟨p, 0, none⟩)]] w fun e w' => e = .returned (.bool true) ∧ Below w0.heap.size w0 w' := by
  have hLw : L < w.heap.size := blk_lt hL
  have hcL : (w.alloc (.cells fCells 35)).cell? ⟨L, 0, none⟩ = some (.int .i64 200) := by rw [blk_cell (blk_alloc hL _)]; rfl
  have hfL : (w.alloc (.cells fCells 35)).frozen? ⟨L, 0, none⟩ = false := blk_frozen (blk_alloc hL _) 0
  have hcL1 : w.cell? ⟨L, 0, none⟩ = some (.int .i64 200) := by rw [blk_cell hL]; rfl
  have hfL1 : w.frozen? ⟨L, 0, none⟩ = false := blk_frozen hL 0
  have hcL2 : ((w.setCell ⟨L, 0, none⟩ (.int .i64 199)).alloc (.cells fCells 35)).cell? ⟨L, 0, none⟩ = some (.int .i64 199) := by rw [blk_cell (blk_alloc (blk_set hL 0 _) _)]; rfl
  have hpw : ((w.setCell ⟨L, 0, none⟩ (.int .i64 199)).alloc (.cells fCells 35)).heap[p]? = some (.cells #[.int .i64 d, .int .i64 m] 31 (0, 0)) := blk_alloc (blk_far hp hne _) _
  have HB1 : Below w0.heap.size w0 ((w.setCell ⟨L, 0, none⟩ (.int .i64 199)).alloc (.cells fCells 35)) := below_alloc (below_set hB h0L) _
  have HF := fine_all p d m _ hpw
  have HK := kids_all
  unfold fVal at HF HK ⊢
  unfold fCells at *
  have HF := Aside0.mk HF
  have HK := Aside0.mk HK
  have HB1 := Aside0.mk HB1
  clear hp hL hpw hB
  go_enter Tryd.func47, Tryd.ntmps47
  go_wp2_with fail
  refine HF.out.mono ?_
  rintro e w2 ⟨rfl, hb2⟩
  have hbox : w2.heap[w.heap.size]? = some (.cells #[.int .i64 1, .int .i64 0, .slice none 0 0, .int .i64 0, .int .i64 0, .slice none 0 0] 35 (0, 0)) := by
    refine blk_below ?_ hb2
    have := blk_new (w.setCell ⟨L, 0, none⟩ (.int .i64 199)) (.cells #[.int .i64 1, .int .i64 0, .slice none 0 0, .int .i64 0, .int .i64 0, .slice none 0 0] 35 (0, 0))
    simpa [World.setCell] using this
  have HB2 := Aside0.mk (below_step HB1.out hb2)
  have i0 := (blk_cell hbox 0).trans rfl
  have i1 := (blk_cell hbox 1).trans rfl
  have i2 := (blk_cell hbox 2).trans rfl
  have i3 := (blk_cell hbox 3).trans rfl
  have i4 := (blk_cell hbox 4).trans rfl
  have i5 := (blk_cell hbox 5).trans rfl
  clear hb2 hbox hcL hfL hcL2 hcL1 hfL1
  go_wp2_with fail
  refine (HK.out _).mono ?_
  rintro e w3 ⟨rfl, hb3⟩
  have HB3 := Aside0.mk (below_step HB2.out hb3)
  clear hb3
  go_wp2
  refine wp_loop_rounds 1 ?_
  rw [rounds_succ]
  go_wp2
  go_ret
  exact ⟨rfl, HB3.out⟩
theorem fcheck_all (d m : Int) (w : World) :
    Calls Tryd.prog 26 #[.agg #[.int .i64 d, .int .i64 m], fVal] w fun e w' => e = .returned (.int .i64 0) ∧ Below w.heap.size w w' := by
  have hmf := mkFunc
  have HB0 : Below w.heap.size w (((w.alloc (.cells #[.int .i64 d, .int .i64 m] 31)).alloc (.cells fCells 35)).alloc (.cells #[.int .i64 200] 3)) := below_alloc (below_alloc (below_alloc (Below.refl _ _) _) _) _
  have HC := count_all w.heap.size (w.heap.size + 1 + 1) d m w _ HB0 (by omega) (blk_alloc (blk_alloc (blk_new _ _) _) _) (by have := blk_new ((w.alloc (.cells #[.int .i64 d, .int .i64 m] 31)).alloc (.cells fCells 35)) (.cells #[.int .i64 200] 3); simpa using this) (by omega)
  have HC := Aside0.mk HC
  clear HB0
  unfold fVal fCells at *
  go_enter Tryd.func26, Tryd.ntmps26
  go_wp2_with (go_at_call 47; refine HC.out.mono ?_; rintro e w2 ⟨rfl, HB⟩)
  go_ret
  exact ⟨rfl, HB⟩
theorem none_false (w : World) : Calls Tryd.prog 21 #[.bool false] w fun e w' => e = .returned (.int .i64 (-1)) ∧ w' = w := by
  go_enter Tryd.func21, Tryd.ntmps21
  go_wp2
  go_ret
  exact ⟨rfl, rfl⟩
theorem look3 (p q : Nat) (d m : Int) (sv : Value) (w : World) (hp : w.heap[p]? = some (.cells #[.int .i64 d, .int .i64 m] 31 (0, 0))) (hq : w.heap[q]? = some (.cells (qCells sv) 40 (0, 0))) :
    Calls Tryd.prog 25 #[.pointer (some ⟨p, 0, none⟩), .pointer (some ⟨q, 0, none⟩)] w fun e w' => e = .returned (.int .i64 (-1)) ∧ Below w.heap.size w w' := by
  have h0 : w.cell? ⟨p, 0, none⟩ = some (.int .i64 d) := (blk_cell hp 0).trans rfl
  have h1 : w.cell? ⟨p, 1, none⟩ = some (.int .i64 m) := (blk_cell hp 1).trans rfl
  have i2 : w.cell? ⟨q, 2, none⟩ = some (.int .i64 1) := (blk_cell hq 2).trans rfl
  have i3 : w.cell? ⟨q, 3, none⟩ = some (.int .i64 0) := (blk_cell hq 3).trans rfl
  have i4 : w.cell? ⟨q, 4, none⟩ = some (.slice none 0 0) := (blk_cell hq 4).trans rfl
  have i5 : w.cell? ⟨q, 5, none⟩ = some (.int .i64 0) := (blk_cell hq 5).trans rfl
  have i6 : w.cell? ⟨q, 6, none⟩ = some (.int .i64 0) := (blk_cell hq 6).trans rfl
  have i7 : w.cell? ⟨q, 7, none⟩ = some (.slice none 0 0) := (blk_cell hq 7).trans rfl
  have HC := Aside0.mk (fcheck_all d m w)
  unfold fVal at HC
  go_enter Tryd.func25, Tryd.ntmps25
  go_wp2_with (first | (go_at_call 26; refine HC.out.mono ?_; rintro e w2 ⟨rfl, HB⟩) | (go_at_call 21; refine (none_false _).mono ?_; rintro e w3 ⟨rfl, rfl⟩))
  go_ret
  exact ⟨rfl, HB⟩
end Go.Proofs.YteleaflneejipaaDoor
