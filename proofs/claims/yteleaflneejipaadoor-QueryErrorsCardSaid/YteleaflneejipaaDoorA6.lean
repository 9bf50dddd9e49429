/- query.Check by its contracts, at the query that the law asks with. -/
import Derived.Test.YteleaflneejipaaDoorA5
import Derived.Laws.EntriesVeiled
namespace Go.Proofs.YteleaflneejipaaDoor
open Go.RowKit Go.Proofs.YteleaflneejipaaDoorW.PrintWords
set_option linter.unusedVariables false
def qVal (sv : Value) : Value := .agg (qCells sv)
def tab (w : World) : Array Value := #[.string ⟨#[115, 99, 104, 101, 109, 97]⟩, .func (.func 20) #[] #[.pointer (some ⟨w.heap.size, 0, none⟩)], .string ⟨#[115, 112, 97, 110]⟩, .func (.func 23) #[] #[.pointer (some ⟨w.heap.size + 1, 0, none⟩)], .string ⟨#[102, 105, 108, 116, 101, 114]⟩, .func (.func 25) #[] #[.pointer (some ⟨w.heap.size, 0, none⟩), .pointer (some ⟨w.heap.size + 1, 0, none⟩)], .string ⟨#[103, 114, 97, 105, 110]⟩, .func (.func 27) #[] #[.pointer (some ⟨w.heap.size + 1, 0, none⟩)], .string ⟨#[115, 101, 116, 115]⟩, .func (.func 28) #[] #[.pointer (some ⟨w.heap.size + 1, 0, none⟩)], .string ⟨#[115, 101, 116, 115]⟩, .func (.func 29) #[] #[.pointer (some ⟨w.heap.size + 1, 0, none⟩), .pointer (some ⟨w.heap.size, 0, none⟩)], .string ⟨#[97, 103, 103, 115]⟩, .func (.func 33) #[] #[.pointer (some ⟨w.heap.size + 1, 0, none⟩)], .string ⟨#[97, 103, 103, 115]⟩, .func (.func 34) #[] #[.pointer (some ⟨w.heap.size + 1, 0, none⟩), .pointer (some ⟨w.heap.size, 0, none⟩)], .string ⟨#[103, 114, 111, 117, 112, 115]⟩, .func (.func 38) #[] #[.pointer (some ⟨w.heap.size + 1, 0, none⟩)], .string ⟨#[114, 111, 119, 115]⟩, .func (.func 39) #[] #[.pointer (some ⟨w.heap.size + 1, 0, none⟩)]]
set_option maxHeartbeats 16000000 in
set_option maxRecDepth 100000 in
theorem check_none (d m : Int) (A : Option Addr) (c : Nat) (w : World) (hd : 0 ≤ d ∧ d ≤ 8) (hm : 0 ≤ m ∧ m ≤ 8) :
    Calls Tryd.prog 12 #[.agg #[.int .i64 d, .int .i64 m], qVal (.slice A 0 c)] w fun e w' => ∃ g, e = .returned (.iface 45 (.pointer (some ⟨g, 0, none⟩))) ∧ w.heap.size ≤ g ∧ w'.heap[g]? = some (.cells #[.string ⟨#[115, 101, 116, 115]⟩, .int .i64 0] 47 (0, 0)) ∧ Below w.heap.size w w' := by
  have hmf := mkFunc
  have HB := Aside0.mk (show Below w.heap.size w (((w.alloc (.cells #[.int .i64 d, .int .i64 m] 31)).alloc (.cells (qCells (.slice A 0 c)) 40)).alloc (.cells (tab w) 63)) from below_alloc (below_alloc (below_alloc (Below.refl _ _) _) _) _)
  have HP := Aside0.mk (show (((w.alloc (.cells #[.int .i64 d, .int .i64 m] 31)).alloc (.cells (qCells (.slice A 0 c)) 40)).alloc (.cells (tab w) 63)).heap[w.heap.size]? = some (.cells #[.int .i64 d, .int .i64 m] 31 (0, 0)) from blk_alloc (blk_alloc (blk_new _ _) _) _)
  have HQ := Aside0.mk (show (((w.alloc (.cells #[.int .i64 d, .int .i64 m] 31)).alloc (.cells (qCells (.slice A 0 c)) 40)).alloc (.cells (tab w) 63)).heap[w.heap.size + 1]? = some (.cells (qCells (.slice A 0 c)) 40 (0, 0)) from blk_alloc (by have := blk_new (w.alloc (.cells #[.int .i64 d, .int .i64 m] 31)) (.cells (qCells (.slice A 0 c)) 40); simpa using this) _)
  have HS := Aside0.mk (show (((w.alloc (.cells #[.int .i64 d, .int .i64 m] 31)).alloc (.cells (qCells (.slice A 0 c)) 40)).alloc (.cells (tab w) 63)).heap[w.heap.size + 1 + 1]? = some (.cells (tab w) 63 (0, 0)) from (by have := blk_new ((w.alloc (.cells #[.int .i64 d, .int .i64 m] 31)).alloc (.cells (qCells (.slice A 0 c)) 40)) (.cells (tab w) 63); simpa using this))
  unfold qVal qCells tab at *
  go_enter Tryd.func12, Tryd.ntmps12
  go_wp2
  refine wp_loop_rounds 5 ?_
  rw [rounds_succ]
  go_wp2_with fail
  refine (look1 _ d m _ (blk_alloc HP.out _) hd hm).mono ?_
  rintro e w1 ⟨rfl, hb⟩
  have HP' := Aside0.mk (blk_below (blk_alloc HP.out (.cells #[.string ⟨#[115, 99, 104, 101, 109, 97]⟩, .func (.func 20) #[] #[.pointer (some ⟨w.heap.size, 0, none⟩)]] 63)) hb)
  have HQ' := Aside0.mk (blk_below (blk_alloc HQ.out (.cells #[.string ⟨#[115, 99, 104, 101, 109, 97]⟩, .func (.func 20) #[] #[.pointer (some ⟨w.heap.size, 0, none⟩)]] 63)) hb)
  have HS' := Aside0.mk (blk_below (blk_alloc HS.out (.cells #[.string ⟨#[115, 99, 104, 101, 109, 97]⟩, .func (.func 20) #[] #[.pointer (some ⟨w.heap.size, 0, none⟩)]] 63)) hb)
  have HB' := Aside0.mk (below_step (below_alloc HB.out (.cells #[.string ⟨#[115, 99, 104, 101, 109, 97]⟩, .func (.func 20) #[] #[.pointer (some ⟨w.heap.size, 0, none⟩)]] 63)) hb)
  clear HP HQ HS HB hb
  have HP := HP'
  clear HP'
  have HQ := HQ'
  clear HQ'
  have HS := HS'
  clear HS'
  have HB := HB'
  clear HB'
  go_wp2
  have t0 : w1.cell? ⟨w.heap.size + 1 + 1, 2, none⟩ = some (.string ⟨#[115, 112, 97, 110]⟩) := (blk_cell HS.out 2).trans rfl
  have t1 : w1.cell? ⟨w.heap.size + 1 + 1, 3, none⟩ = some (.func (.func 23) #[] #[.pointer (some ⟨w.heap.size + 1, 0, none⟩)]) := (blk_cell HS.out 3).trans rfl
  rw [rounds_succ]
  go_wp2_with fail
  refine (look2 _ _ _ (blk_alloc HQ.out _)).mono ?_
  rintro e w2 ⟨rfl, hb⟩
  have HP' := Aside0.mk (blk_below (blk_alloc HP.out (.cells #[.string ⟨#[115, 112, 97, 110]⟩, .func (.func 23) #[] #[.pointer (some ⟨w.heap.size + 1, 0, none⟩)]] 63)) hb)
  have HQ' := Aside0.mk (blk_below (blk_alloc HQ.out (.cells #[.string ⟨#[115, 112, 97, 110]⟩, .func (.func 23) #[] #[.pointer (some ⟨w.heap.size + 1, 0, none⟩)]] 63)) hb)
  have HS' := Aside0.mk (blk_below (blk_alloc HS.out (.cells #[.string ⟨#[115, 112, 97, 110]⟩, .func (.func 23) #[] #[.pointer (some ⟨w.heap.size + 1, 0, none⟩)]] 63)) hb)
  have HB' := Aside0.mk (below_step (below_alloc HB.out (.cells #[.string ⟨#[115, 112, 97, 110]⟩, .func (.func 23) #[] #[.pointer (some ⟨w.heap.size + 1, 0, none⟩)]] 63)) hb)
  clear HP HQ HS HB hb t0 t1
  have HP := HP'
  clear HP'
  have HQ := HQ'
  clear HQ'
  have HS := HS'
  clear HS'
  have HB := HB'
  clear HB'
  go_wp2
  have t0 : w2.cell? ⟨w.heap.size + 1 + 1, 4, none⟩ = some (.string ⟨#[102, 105, 108, 116, 101, 114]⟩) := (blk_cell HS.out 4).trans rfl
  have t1 : w2.cell? ⟨w.heap.size + 1 + 1, 5, none⟩ = some (.func (.func 25) #[] #[.pointer (some ⟨w.heap.size, 0, none⟩), .pointer (some ⟨w.heap.size + 1, 0, none⟩)]) := (blk_cell HS.out 5).trans rfl
  rw [rounds_succ]
  go_wp2_with fail
  refine (look3 _ _ d m _ _ (blk_alloc HP.out _) (blk_alloc HQ.out _)).mono ?_
  rintro e w3 ⟨rfl, hb⟩
  have HP' := Aside0.mk (blk_below (blk_alloc HP.out (.cells #[.string ⟨#[102, 105, 108, 116, 101, 114]⟩, .func (.func 25) #[] #[.pointer (some ⟨w.heap.size, 0, none⟩), .pointer (some ⟨w.heap.size + 1, 0, none⟩)]] 63)) hb)
  have HQ' := Aside0.mk (blk_below (blk_alloc HQ.out (.cells #[.string ⟨#[102, 105, 108, 116, 101, 114]⟩, .func (.func 25) #[] #[.pointer (some ⟨w.heap.size, 0, none⟩), .pointer (some ⟨w.heap.size + 1, 0, none⟩)]] 63)) hb)
  have HS' := Aside0.mk (blk_below (blk_alloc HS.out (.cells #[.string ⟨#[102, 105, 108, 116, 101, 114]⟩, .func (.func 25) #[] #[.pointer (some ⟨w.heap.size, 0, none⟩), .pointer (some ⟨w.heap.size + 1, 0, none⟩)]] 63)) hb)
  have HB' := Aside0.mk (below_step (below_alloc HB.out (.cells #[.string ⟨#[102, 105, 108, 116, 101, 114]⟩, .func (.func 25) #[] #[.pointer (some ⟨w.heap.size, 0, none⟩), .pointer (some ⟨w.heap.size + 1, 0, none⟩)]] 63)) hb)
  clear HP HQ HS HB hb t0 t1
  have HP := HP'
  clear HP'
  have HQ := HQ'
  clear HQ'
  have HS := HS'
  clear HS'
  have HB := HB'
  clear HB'
  go_wp2
  have t0 : w3.cell? ⟨w.heap.size + 1 + 1, 6, none⟩ = some (.string ⟨#[103, 114, 97, 105, 110]⟩) := (blk_cell HS.out 6).trans rfl
  have t1 : w3.cell? ⟨w.heap.size + 1 + 1, 7, none⟩ = some (.func (.func 27) #[] #[.pointer (some ⟨w.heap.size + 1, 0, none⟩)]) := (blk_cell HS.out 7).trans rfl
  rw [rounds_succ]
  go_wp2_with fail
  refine (look4 _ _ _ (blk_alloc HQ.out _)).mono ?_
  rintro e w4 ⟨rfl, hb⟩
  have HP' := Aside0.mk (blk_below (blk_alloc HP.out (.cells #[.string ⟨#[103, 114, 97, 105, 110]⟩, .func (.func 27) #[] #[.pointer (some ⟨w.heap.size + 1, 0, none⟩)]] 63)) hb)
  have HQ' := Aside0.mk (blk_below (blk_alloc HQ.out (.cells #[.string ⟨#[103, 114, 97, 105, 110]⟩, .func (.func 27) #[] #[.pointer (some ⟨w.heap.size + 1, 0, none⟩)]] 63)) hb)
  have HS' := Aside0.mk (blk_below (blk_alloc HS.out (.cells #[.string ⟨#[103, 114, 97, 105, 110]⟩, .func (.func 27) #[] #[.pointer (some ⟨w.heap.size + 1, 0, none⟩)]] 63)) hb)
  have HB' := Aside0.mk (below_step (below_alloc HB.out (.cells #[.string ⟨#[103, 114, 97, 105, 110]⟩, .func (.func 27) #[] #[.pointer (some ⟨w.heap.size + 1, 0, none⟩)]] 63)) hb)
  clear HP HQ HS HB hb t0 t1
  have HP := HP'
  clear HP'
  have HQ := HQ'
  clear HQ'
  have HS := HS'
  clear HS'
  have HB := HB'
  clear HB'
  go_wp2
  have t0 : w4.cell? ⟨w.heap.size + 1 + 1, 8, none⟩ = some (.string ⟨#[115, 101, 116, 115]⟩) := (blk_cell HS.out 8).trans rfl
  have t1 : w4.cell? ⟨w.heap.size + 1 + 1, 9, none⟩ = some (.func (.func 28) #[] #[.pointer (some ⟨w.heap.size + 1, 0, none⟩)]) := (blk_cell HS.out 9).trans rfl
  rw [rounds_succ]
  go_wp2_with fail
  refine (look5_none _ A c _ (blk_alloc HQ.out _)).mono ?_
  rintro e w5 ⟨rfl, hb⟩
  have hL := blk_below (blk_new w4 (.cells #[.string ⟨#[115, 101, 116, 115]⟩, .func (.func 28) #[] #[.pointer (some ⟨w.heap.size + 1, 0, none⟩)]] 63)) hb
  have hL0 : w5.cell? ⟨w4.heap.size, 0, none⟩ = some (.string ⟨#[115, 101, 116, 115]⟩) := (blk_cell hL 0).trans rfl
  have HP' := Aside0.mk (blk_below (blk_alloc HP.out (.cells #[.string ⟨#[115, 101, 116, 115]⟩, .func (.func 28) #[] #[.pointer (some ⟨w.heap.size + 1, 0, none⟩)]] 63)) hb)
  have HQ' := Aside0.mk (blk_below (blk_alloc HQ.out (.cells #[.string ⟨#[115, 101, 116, 115]⟩, .func (.func 28) #[] #[.pointer (some ⟨w.heap.size + 1, 0, none⟩)]] 63)) hb)
  have HS' := Aside0.mk (blk_below (blk_alloc HS.out (.cells #[.string ⟨#[115, 101, 116, 115]⟩, .func (.func 28) #[] #[.pointer (some ⟨w.heap.size + 1, 0, none⟩)]] 63)) hb)
  have HB' := Aside0.mk (below_step (below_alloc HB.out (.cells #[.string ⟨#[115, 101, 116, 115]⟩, .func (.func 28) #[] #[.pointer (some ⟨w.heap.size + 1, 0, none⟩)]] 63)) hb)
  clear HP HQ HS HB hb t0 t1
  have HP := HP'
  clear HP'
  have HQ := HQ'
  clear HQ'
  have HS := HS'
  clear HS'
  have HB := HB'
  clear HB'
  go_wp2
  go_ret
  exact ⟨_, rfl, HB.out.size, blk_new _ _, below_alloc HB.out _⟩
set_option maxHeartbeats 16000000 in
set_option maxRecDepth 100000 in
theorem check_ok (d m : Int) (xs : List (List Int)) (A : Option Addr) (c : Nat) (w : World) (hd : 0 ≤ d ∧ d ≤ 8) (hm : 0 ≤ m ∧ m ≤ 8) (h : Kd.C (Kd.slice 3 (Kd.int .i64)) w A xs.length xs) (hc : xs.length ≤ c) (hn : 1 ≤ xs.length ∧ xs.length ≤ 64) (hr : SetsFit d xs) :
    Calls Tryd.prog 12 #[.agg #[.int .i64 d, .int .i64 m], qVal (.slice A xs.length c)] w fun e w' => e = .returned .nilIface ∧ Below w.heap.size w w' := by
  have HC := Aside0.mk h
  have HR := Aside0.mk hr
  clear h hr
  have hmf := mkFunc
  have HB := Aside0.mk (show Below w.heap.size w (((w.alloc (.cells #[.int .i64 d, .int .i64 m] 31)).alloc (.cells (qCells (.slice A xs.length c)) 40)).alloc (.cells (tab w) 63)) from below_alloc (below_alloc (below_alloc (Below.refl _ _) _) _) _)
  have HP := Aside0.mk (show (((w.alloc (.cells #[.int .i64 d, .int .i64 m] 31)).alloc (.cells (qCells (.slice A xs.length c)) 40)).alloc (.cells (tab w) 63)).heap[w.heap.size]? = some (.cells #[.int .i64 d, .int .i64 m] 31 (0, 0)) from blk_alloc (blk_alloc (blk_new _ _) _) _)
  have HQ := Aside0.mk (show (((w.alloc (.cells #[.int .i64 d, .int .i64 m] 31)).alloc (.cells (qCells (.slice A xs.length c)) 40)).alloc (.cells (tab w) 63)).heap[w.heap.size + 1]? = some (.cells (qCells (.slice A xs.length c)) 40 (0, 0)) from blk_alloc (by have := blk_new (w.alloc (.cells #[.int .i64 d, .int .i64 m] 31)) (.cells (qCells (.slice A xs.length c)) 40); simpa using this) _)
  have HS := Aside0.mk (show (((w.alloc (.cells #[.int .i64 d, .int .i64 m] 31)).alloc (.cells (qCells (.slice A xs.length c)) 40)).alloc (.cells (tab w) 63)).heap[w.heap.size + 1 + 1]? = some (.cells (tab w) 63 (0, 0)) from (by have := blk_new ((w.alloc (.cells #[.int .i64 d, .int .i64 m] 31)).alloc (.cells (qCells (.slice A xs.length c)) 40)) (.cells (tab w) 63); simpa using this))
  unfold qVal qCells tab at *
  go_enter Tryd.func12, Tryd.ntmps12
  go_wp2
  refine wp_loop_rounds 11 ?_
  rw [rounds_succ]
  go_wp2_with fail
  refine (look1 _ d m _ (blk_alloc HP.out _) hd hm).mono ?_
  rintro e w1 ⟨rfl, hb⟩
  have HP' := Aside0.mk (blk_below (blk_alloc HP.out (.cells #[.string ⟨#[115, 99, 104, 101, 109, 97]⟩, .func (.func 20) #[] #[.pointer (some ⟨w.heap.size, 0, none⟩)]] 63)) hb)
  have HQ' := Aside0.mk (blk_below (blk_alloc HQ.out (.cells #[.string ⟨#[115, 99, 104, 101, 109, 97]⟩, .func (.func 20) #[] #[.pointer (some ⟨w.heap.size, 0, none⟩)]] 63)) hb)
  have HS' := Aside0.mk (blk_below (blk_alloc HS.out (.cells #[.string ⟨#[115, 99, 104, 101, 109, 97]⟩, .func (.func 20) #[] #[.pointer (some ⟨w.heap.size, 0, none⟩)]] 63)) hb)
  have HB' := Aside0.mk (below_step (below_alloc HB.out (.cells #[.string ⟨#[115, 99, 104, 101, 109, 97]⟩, .func (.func 20) #[] #[.pointer (some ⟨w.heap.size, 0, none⟩)]] 63)) hb)
  clear HP HQ HS HB hb
  have HP := HP'
  clear HP'
  have HQ := HQ'
  clear HQ'
  have HS := HS'
  clear HS'
  have HB := HB'
  clear HB'
  go_wp2
  have t0 : w1.cell? ⟨w.heap.size + 1 + 1, 2, none⟩ = some (.string ⟨#[115, 112, 97, 110]⟩) := (blk_cell HS.out 2).trans rfl
  have t1 : w1.cell? ⟨w.heap.size + 1 + 1, 3, none⟩ = some (.func (.func 23) #[] #[.pointer (some ⟨w.heap.size + 1, 0, none⟩)]) := (blk_cell HS.out 3).trans rfl
  rw [rounds_succ]
  go_wp2_with fail
  refine (look2 _ _ _ (blk_alloc HQ.out _)).mono ?_
  rintro e w2 ⟨rfl, hb⟩
  have HP' := Aside0.mk (blk_below (blk_alloc HP.out (.cells #[.string ⟨#[115, 112, 97, 110]⟩, .func (.func 23) #[] #[.pointer (some ⟨w.heap.size + 1, 0, none⟩)]] 63)) hb)
  have HQ' := Aside0.mk (blk_below (blk_alloc HQ.out (.cells #[.string ⟨#[115, 112, 97, 110]⟩, .func (.func 23) #[] #[.pointer (some ⟨w.heap.size + 1, 0, none⟩)]] 63)) hb)
  have HS' := Aside0.mk (blk_below (blk_alloc HS.out (.cells #[.string ⟨#[115, 112, 97, 110]⟩, .func (.func 23) #[] #[.pointer (some ⟨w.heap.size + 1, 0, none⟩)]] 63)) hb)
  have HB' := Aside0.mk (below_step (below_alloc HB.out (.cells #[.string ⟨#[115, 112, 97, 110]⟩, .func (.func 23) #[] #[.pointer (some ⟨w.heap.size + 1, 0, none⟩)]] 63)) hb)
  clear HP HQ HS HB hb t0 t1
  have HP := HP'
  clear HP'
  have HQ := HQ'
  clear HQ'
  have HS := HS'
  clear HS'
  have HB := HB'
  clear HB'
  go_wp2
  have t0 : w2.cell? ⟨w.heap.size + 1 + 1, 4, none⟩ = some (.string ⟨#[102, 105, 108, 116, 101, 114]⟩) := (blk_cell HS.out 4).trans rfl
  have t1 : w2.cell? ⟨w.heap.size + 1 + 1, 5, none⟩ = some (.func (.func 25) #[] #[.pointer (some ⟨w.heap.size, 0, none⟩), .pointer (some ⟨w.heap.size + 1, 0, none⟩)]) := (blk_cell HS.out 5).trans rfl
  rw [rounds_succ]
  go_wp2_with fail
  refine (look3 _ _ d m _ _ (blk_alloc HP.out _) (blk_alloc HQ.out _)).mono ?_
  rintro e w3 ⟨rfl, hb⟩
  have HP' := Aside0.mk (blk_below (blk_alloc HP.out (.cells #[.string ⟨#[102, 105, 108, 116, 101, 114]⟩, .func (.func 25) #[] #[.pointer (some ⟨w.heap.size, 0, none⟩), .pointer (some ⟨w.heap.size + 1, 0, none⟩)]] 63)) hb)
  have HQ' := Aside0.mk (blk_below (blk_alloc HQ.out (.cells #[.string ⟨#[102, 105, 108, 116, 101, 114]⟩, .func (.func 25) #[] #[.pointer (some ⟨w.heap.size, 0, none⟩), .pointer (some ⟨w.heap.size + 1, 0, none⟩)]] 63)) hb)
  have HS' := Aside0.mk (blk_below (blk_alloc HS.out (.cells #[.string ⟨#[102, 105, 108, 116, 101, 114]⟩, .func (.func 25) #[] #[.pointer (some ⟨w.heap.size, 0, none⟩), .pointer (some ⟨w.heap.size + 1, 0, none⟩)]] 63)) hb)
  have HB' := Aside0.mk (below_step (below_alloc HB.out (.cells #[.string ⟨#[102, 105, 108, 116, 101, 114]⟩, .func (.func 25) #[] #[.pointer (some ⟨w.heap.size, 0, none⟩), .pointer (some ⟨w.heap.size + 1, 0, none⟩)]] 63)) hb)
  clear HP HQ HS HB hb t0 t1
  have HP := HP'
  clear HP'
  have HQ := HQ'
  clear HQ'
  have HS := HS'
  clear HS'
  have HB := HB'
  clear HB'
  go_wp2
  have t0 : w3.cell? ⟨w.heap.size + 1 + 1, 6, none⟩ = some (.string ⟨#[103, 114, 97, 105, 110]⟩) := (blk_cell HS.out 6).trans rfl
  have t1 : w3.cell? ⟨w.heap.size + 1 + 1, 7, none⟩ = some (.func (.func 27) #[] #[.pointer (some ⟨w.heap.size + 1, 0, none⟩)]) := (blk_cell HS.out 7).trans rfl
  rw [rounds_succ]
  go_wp2_with fail
  refine (look4 _ _ _ (blk_alloc HQ.out _)).mono ?_
  rintro e w4 ⟨rfl, hb⟩
  have HP' := Aside0.mk (blk_below (blk_alloc HP.out (.cells #[.string ⟨#[103, 114, 97, 105, 110]⟩, .func (.func 27) #[] #[.pointer (some ⟨w.heap.size + 1, 0, none⟩)]] 63)) hb)
  have HQ' := Aside0.mk (blk_below (blk_alloc HQ.out (.cells #[.string ⟨#[103, 114, 97, 105, 110]⟩, .func (.func 27) #[] #[.pointer (some ⟨w.heap.size + 1, 0, none⟩)]] 63)) hb)
  have HS' := Aside0.mk (blk_below (blk_alloc HS.out (.cells #[.string ⟨#[103, 114, 97, 105, 110]⟩, .func (.func 27) #[] #[.pointer (some ⟨w.heap.size + 1, 0, none⟩)]] 63)) hb)
  have HB' := Aside0.mk (below_step (below_alloc HB.out (.cells #[.string ⟨#[103, 114, 97, 105, 110]⟩, .func (.func 27) #[] #[.pointer (some ⟨w.heap.size + 1, 0, none⟩)]] 63)) hb)
  clear HP HQ HS HB hb t0 t1
  have HP := HP'
  clear HP'
  have HQ := HQ'
  clear HQ'
  have HS := HS'
  clear HS'
  have HB := HB'
  clear HB'
  go_wp2
  have t0 : w4.cell? ⟨w.heap.size + 1 + 1, 8, none⟩ = some (.string ⟨#[115, 101, 116, 115]⟩) := (blk_cell HS.out 8).trans rfl
  have t1 : w4.cell? ⟨w.heap.size + 1 + 1, 9, none⟩ = some (.func (.func 28) #[] #[.pointer (some ⟨w.heap.size + 1, 0, none⟩)]) := (blk_cell HS.out 9).trans rfl
  rw [rounds_succ]
  go_wp2_with fail
  refine (look5 _ A xs.length c hn _ (blk_alloc HQ.out _)).mono ?_
  rintro e w5 ⟨rfl, hb⟩
  have HP' := Aside0.mk (blk_below (blk_alloc HP.out (.cells #[.string ⟨#[115, 101, 116, 115]⟩, .func (.func 28) #[] #[.pointer (some ⟨w.heap.size + 1, 0, none⟩)]] 63)) hb)
  have HQ' := Aside0.mk (blk_below (blk_alloc HQ.out (.cells #[.string ⟨#[115, 101, 116, 115]⟩, .func (.func 28) #[] #[.pointer (some ⟨w.heap.size + 1, 0, none⟩)]] 63)) hb)
  have HS' := Aside0.mk (blk_below (blk_alloc HS.out (.cells #[.string ⟨#[115, 101, 116, 115]⟩, .func (.func 28) #[] #[.pointer (some ⟨w.heap.size + 1, 0, none⟩)]] 63)) hb)
  have HB' := Aside0.mk (below_step (below_alloc HB.out (.cells #[.string ⟨#[115, 101, 116, 115]⟩, .func (.func 28) #[] #[.pointer (some ⟨w.heap.size + 1, 0, none⟩)]] 63)) hb)
  clear HP HQ HS HB hb t0 t1
  have HP := HP'
  clear HP'
  have HQ := HQ'
  clear HQ'
  have HS := HS'
  clear HS'
  have HB := HB'
  clear HB'
  go_wp2
  have t0 : w5.cell? ⟨w.heap.size + 1 + 1, 10, none⟩ = some (.string ⟨#[115, 101, 116, 115]⟩) := (blk_cell HS.out 10).trans rfl
  have t1 : w5.cell? ⟨w.heap.size + 1 + 1, 11, none⟩ = some (.func (.func 29) #[] #[.pointer (some ⟨w.heap.size + 1, 0, none⟩), .pointer (some ⟨w.heap.size, 0, none⟩)]) := (blk_cell HS.out 11).trans rfl
  rw [rounds_succ]
  go_wp2_with fail
  refine (look6 _ _ d m xs A c _ (blk_alloc HP.out _) (blk_alloc HQ.out _) (Kd.C_below HC.out (below_alloc HB.out _)) hc (by omega) HR.out).mono ?_
  rintro e w6 ⟨rfl, hb⟩
  have HP' := Aside0.mk (blk_below (blk_alloc HP.out (.cells #[.string ⟨#[115, 101, 116, 115]⟩, .func (.func 29) #[] #[.pointer (some ⟨w.heap.size + 1, 0, none⟩), .pointer (some ⟨w.heap.size, 0, none⟩)]] 63)) hb)
  have HQ' := Aside0.mk (blk_below (blk_alloc HQ.out (.cells #[.string ⟨#[115, 101, 116, 115]⟩, .func (.func 29) #[] #[.pointer (some ⟨w.heap.size + 1, 0, none⟩), .pointer (some ⟨w.heap.size, 0, none⟩)]] 63)) hb)
  have HS' := Aside0.mk (blk_below (blk_alloc HS.out (.cells #[.string ⟨#[115, 101, 116, 115]⟩, .func (.func 29) #[] #[.pointer (some ⟨w.heap.size + 1, 0, none⟩), .pointer (some ⟨w.heap.size, 0, none⟩)]] 63)) hb)
  have HB' := Aside0.mk (below_step (below_alloc HB.out (.cells #[.string ⟨#[115, 101, 116, 115]⟩, .func (.func 29) #[] #[.pointer (some ⟨w.heap.size + 1, 0, none⟩), .pointer (some ⟨w.heap.size, 0, none⟩)]] 63)) hb)
  clear HP HQ HS HB hb t0 t1
  have HP := HP'
  clear HP'
  have HQ := HQ'
  clear HQ'
  have HS := HS'
  clear HS'
  have HB := HB'
  clear HB'
  go_wp2
  have t0 : w6.cell? ⟨w.heap.size + 1 + 1, 12, none⟩ = some (.string ⟨#[97, 103, 103, 115]⟩) := (blk_cell HS.out 12).trans rfl
  have t1 : w6.cell? ⟨w.heap.size + 1 + 1, 13, none⟩ = some (.func (.func 33) #[] #[.pointer (some ⟨w.heap.size + 1, 0, none⟩)]) := (blk_cell HS.out 13).trans rfl
  rw [rounds_succ]
  go_wp2_with fail
  refine (look7 _ _ _ (blk_alloc HQ.out _)).mono ?_
  rintro e w7 ⟨rfl, hb⟩
  have HP' := Aside0.mk (blk_below (blk_alloc HP.out (.cells #[.string ⟨#[97, 103, 103, 115]⟩, .func (.func 33) #[] #[.pointer (some ⟨w.heap.size + 1, 0, none⟩)]] 63)) hb)
  have HQ' := Aside0.mk (blk_below (blk_alloc HQ.out (.cells #[.string ⟨#[97, 103, 103, 115]⟩, .func (.func 33) #[] #[.pointer (some ⟨w.heap.size + 1, 0, none⟩)]] 63)) hb)
  have HS' := Aside0.mk (blk_below (blk_alloc HS.out (.cells #[.string ⟨#[97, 103, 103, 115]⟩, .func (.func 33) #[] #[.pointer (some ⟨w.heap.size + 1, 0, none⟩)]] 63)) hb)
  have HB' := Aside0.mk (below_step (below_alloc HB.out (.cells #[.string ⟨#[97, 103, 103, 115]⟩, .func (.func 33) #[] #[.pointer (some ⟨w.heap.size + 1, 0, none⟩)]] 63)) hb)
  clear HP HQ HS HB hb t0 t1
  have HP := HP'
  clear HP'
  have HQ := HQ'
  clear HQ'
  have HS := HS'
  clear HS'
  have HB := HB'
  clear HB'
  go_wp2
  have t0 : w7.cell? ⟨w.heap.size + 1 + 1, 14, none⟩ = some (.string ⟨#[97, 103, 103, 115]⟩) := (blk_cell HS.out 14).trans rfl
  have t1 : w7.cell? ⟨w.heap.size + 1 + 1, 15, none⟩ = some (.func (.func 34) #[] #[.pointer (some ⟨w.heap.size + 1, 0, none⟩), .pointer (some ⟨w.heap.size, 0, none⟩)]) := (blk_cell HS.out 15).trans rfl
  rw [rounds_succ]
  go_wp2_with fail
  refine (look8 _ _ _ _ (blk_alloc HQ.out _)).mono ?_
  rintro e w8 ⟨rfl, hb⟩
  have HP' := Aside0.mk (blk_below (blk_alloc HP.out (.cells #[.string ⟨#[97, 103, 103, 115]⟩, .func (.func 34) #[] #[.pointer (some ⟨w.heap.size + 1, 0, none⟩), .pointer (some ⟨w.heap.size, 0, none⟩)]] 63)) hb)
  have HQ' := Aside0.mk (blk_below (blk_alloc HQ.out (.cells #[.string ⟨#[97, 103, 103, 115]⟩, .func (.func 34) #[] #[.pointer (some ⟨w.heap.size + 1, 0, none⟩), .pointer (some ⟨w.heap.size, 0, none⟩)]] 63)) hb)
  have HS' := Aside0.mk (blk_below (blk_alloc HS.out (.cells #[.string ⟨#[97, 103, 103, 115]⟩, .func (.func 34) #[] #[.pointer (some ⟨w.heap.size + 1, 0, none⟩), .pointer (some ⟨w.heap.size, 0, none⟩)]] 63)) hb)
  have HB' := Aside0.mk (below_step (below_alloc HB.out (.cells #[.string ⟨#[97, 103, 103, 115]⟩, .func (.func 34) #[] #[.pointer (some ⟨w.heap.size + 1, 0, none⟩), .pointer (some ⟨w.heap.size, 0, none⟩)]] 63)) hb)
  clear HP HQ HS HB hb t0 t1
  have HP := HP'
  clear HP'
  have HQ := HQ'
  clear HQ'
  have HS := HS'
  clear HS'
  have HB := HB'
  clear HB'
  go_wp2
  have t0 : w8.cell? ⟨w.heap.size + 1 + 1, 16, none⟩ = some (.string ⟨#[103, 114, 111, 117, 112, 115]⟩) := (blk_cell HS.out 16).trans rfl
  have t1 : w8.cell? ⟨w.heap.size + 1 + 1, 17, none⟩ = some (.func (.func 38) #[] #[.pointer (some ⟨w.heap.size + 1, 0, none⟩)]) := (blk_cell HS.out 17).trans rfl
  rw [rounds_succ]
  go_wp2_with fail
  refine (look9 _ _ _ (blk_alloc HQ.out _)).mono ?_
  rintro e w9 ⟨rfl, hb⟩
  have HP' := Aside0.mk (blk_below (blk_alloc HP.out (.cells #[.string ⟨#[103, 114, 111, 117, 112, 115]⟩, .func (.func 38) #[] #[.pointer (some ⟨w.heap.size + 1, 0, none⟩)]] 63)) hb)
  have HQ' := Aside0.mk (blk_below (blk_alloc HQ.out (.cells #[.string ⟨#[103, 114, 111, 117, 112, 115]⟩, .func (.func 38) #[] #[.pointer (some ⟨w.heap.size + 1, 0, none⟩)]] 63)) hb)
  have HS' := Aside0.mk (blk_below (blk_alloc HS.out (.cells #[.string ⟨#[103, 114, 111, 117, 112, 115]⟩, .func (.func 38) #[] #[.pointer (some ⟨w.heap.size + 1, 0, none⟩)]] 63)) hb)
  have HB' := Aside0.mk (below_step (below_alloc HB.out (.cells #[.string ⟨#[103, 114, 111, 117, 112, 115]⟩, .func (.func 38) #[] #[.pointer (some ⟨w.heap.size + 1, 0, none⟩)]] 63)) hb)
  clear HP HQ HS HB hb t0 t1
  have HP := HP'
  clear HP'
  have HQ := HQ'
  clear HQ'
  have HS := HS'
  clear HS'
  have HB := HB'
  clear HB'
  go_wp2
  have t0 : w9.cell? ⟨w.heap.size + 1 + 1, 18, none⟩ = some (.string ⟨#[114, 111, 119, 115]⟩) := (blk_cell HS.out 18).trans rfl
  have t1 : w9.cell? ⟨w.heap.size + 1 + 1, 19, none⟩ = some (.func (.func 39) #[] #[.pointer (some ⟨w.heap.size + 1, 0, none⟩)]) := (blk_cell HS.out 19).trans rfl
  rw [rounds_succ]
  go_wp2_with fail
  refine (look10 _ _ _ (blk_alloc HQ.out _)).mono ?_
  rintro e w10 ⟨rfl, hb⟩
  have HP' := Aside0.mk (blk_below (blk_alloc HP.out (.cells #[.string ⟨#[114, 111, 119, 115]⟩, .func (.func 39) #[] #[.pointer (some ⟨w.heap.size + 1, 0, none⟩)]] 63)) hb)
  have HQ' := Aside0.mk (blk_below (blk_alloc HQ.out (.cells #[.string ⟨#[114, 111, 119, 115]⟩, .func (.func 39) #[] #[.pointer (some ⟨w.heap.size + 1, 0, none⟩)]] 63)) hb)
  have HS' := Aside0.mk (blk_below (blk_alloc HS.out (.cells #[.string ⟨#[114, 111, 119, 115]⟩, .func (.func 39) #[] #[.pointer (some ⟨w.heap.size + 1, 0, none⟩)]] 63)) hb)
  have HB' := Aside0.mk (below_step (below_alloc HB.out (.cells #[.string ⟨#[114, 111, 119, 115]⟩, .func (.func 39) #[] #[.pointer (some ⟨w.heap.size + 1, 0, none⟩)]] 63)) hb)
  clear HP HQ HS HB hb t0 t1
  have HP := HP'
  clear HP'
  have HQ := HQ'
  clear HQ'
  have HS := HS'
  clear HS'
  have HB := HB'
  clear HB'
  go_wp2
  rw [rounds_succ]
  go_wp2
  go_ret
  exact ⟨rfl, HB.out⟩
end Go.Proofs.YteleaflneejipaaDoor
