/- errors.as at chains of errors, two targets: by contracts; written by a program. -/
import Derived.Test.YteleaflneejipaaDoorE2
namespace Go.Proofs.YteleaflneejipaaDoor
open Go.RowKit Go.Extern.Stop Go.Stop Go.Extern Go.Proofs.YteleaflneejipaaDoorW.PrintWords
set_option linter.unusedVariables false
set_option maxHeartbeats 8000000 in
set_option maxRecDepth 100000 in
theorem as_wrong (e : Addr) (n : Nat) (g tb : Nat) (old : Value) (w0 w : World) (hB : Below w0.heap.size w0 w) (h0 : w0.heap.size ≤ tb) (hg : w.heap[g]? = some (.cells #[.pointer (some ⟨tb, 0, none⟩)] 54 (0, 0))) (ht : w.heap[tb]? = some (.cells #[old] 45 (0, 0))) :
    Calls Tryd.prog 45 #[wraps n (.iface 45 (.pointer (some e))), .iface 54 (.pointer (some ⟨tb, 0, none⟩)), .agg #[.pointer (some ⟨4, 54, none⟩), .pointer (some ⟨g, 0, none⟩), .int .u64 150], .iface 106 (.agg #[.pointer (some ⟨4, 45, none⟩)])] w fun ev w' => ev = .returned (.bool true) ∧ w'.heap[tb]? = some (.cells #[.pointer (some e)] 45 (0, 0)) ∧ Below w0.heap.size w0 w' := by
  have h40 := @run_callFunc_extern Tryd.prog 40 _ ReflectliteType.typeOf Tryd.func40 (by kernel_rfl) (by kernel_rfl) (by kernel_rfl) (by kernel_rfl)
  have h106 := @run_callFunc_extern Tryd.prog 106 _ (ReflectliteType.relation "AssignableTo" ReflectliteType.assignableTo) Tryd.func106 (by kernel_rfl) (by kernel_rfl) (by kernel_rfl) (by kernel_rfl)
  have h42 := @run_callFunc_extern Tryd.prog 42 _ (fun args => ReflectliteValue.unpack (args.getD 0 (.tuple #[]))) Tryd.func42 (by kernel_rfl) (by kernel_rfl) (by kernel_rfl) (by kernel_rfl)
  have h53 := @run_callFunc_extern Tryd.prog 53 _ (ReflectliteValue.method (ReflectliteValue.valueError "reflectlite.Value.Elem" 0) ReflectliteValue.elem) Tryd.func53 (by kernel_rfl) (by kernel_rfl) (by kernel_rfl) (by kernel_rfl)
  have h54 := @run_callFunc_extern Tryd.prog 54 _ ReflectliteValue.set Tryd.func54 (by kernel_rfl) (by kernel_rfl) (by kernel_rfl) (by kernel_rfl)
  have tO51 := at_typeOf 51 (by decide)
  have tO45 := at_typeOf 45 (by decide)
  have tO48 := at_typeOf 48 (by decide)
  have tO74 := at_typeOf 74 (by decide)
  have mA := as_methodAssignableTo
  have a1 := at_no51
  have a2 := at_no51e
  have a3 := at_no45e
  have a4 := at_no74e
  have a5 := at_is48e
  have a6 := as_assignable25
  have x1 := at_noAsO
  have x2 := at_noAsW
  have x3 := at_noAsS
  have uO := is_hasUnwrapO
  have mO := is_methodUnwrapO
  have uW := is_hasUnwrapW
  have mU := is_methodUnwrap
  have u74 := at_noUnwrapS
  have z74 := at_noUnwrapsS
  have v25 := as_valueOf25
  have v48 := at_valueOf48
  have HB0 := Aside0.mk (below_alloc hB (.cells #[.pointer (some ⟨4, 54, none⟩), .pointer (some ⟨g, 0, none⟩), .int .u64 150] 84))
  have HG0 := Aside0.mk (blk_alloc hg (.cells #[.pointer (some ⟨4, 54, none⟩), .pointer (some ⟨g, 0, none⟩), .int .u64 150] 84))
  have HT0 := Aside0.mk (blk_alloc ht (.cells #[.pointer (some ⟨4, 54, none⟩), .pointer (some ⟨g, 0, none⟩), .int .u64 150] 84))
  have HX0 := Aside0.mk (blk_new w (.cells #[.pointer (some ⟨4, 54, none⟩), .pointer (some ⟨g, 0, none⟩), .int .u64 150] 84))
  clear hB hg ht
  go_enter Tryd.func45, Tryd.ntmps45
  go_wp2
  go_loopg [0] (n + 2) (fun kq v0 w' => ((∃ j : Nat, v0 = wraps j (.iface 45 (.pointer (some e))) ∧ j + 2 ≤ kq)) ∧ Aside0 (Below w0.heap.size w0 w') ∧ Aside0 (w'.heap[g]? = some (.cells #[.pointer (some ⟨tb, 0, none⟩)] 54 (0, 0))) ∧ Aside0 (w'.heap[tb]? = some (.cells #[old] 45 (0, 0))) ∧ Aside0 (w'.heap[w.heap.size]? = some (.cells #[.pointer (some ⟨4, 54, none⟩), .pointer (some ⟨g, 0, none⟩), .int .u64 150] 84 (0, 0))))
  case atStart => exact ⟨⟨n, rfl, Nat.le_refl _⟩, HB0, HG0, HT0, HX0⟩
  case round =>
    obtain ⟨hv, HB, HG, HT, HX⟩ := hrel
    obtain ⟨j, rfl, hj⟩ := hv
    cases j with
    | zero =>
      have e0 : wraps 0 (.iface 45 (.pointer (some e))) = .iface 45 (.pointer (some e)) := rfl
      rw [e0]
      clear e0
      have hgc : wr.cell? ⟨g, 0, none⟩ = some (.pointer (some ⟨tb, 0, none⟩)) := (blk_cell HG.out 0).trans rfl
      have b0 : wr.cell? ⟨w.heap.size, 0, none⟩ = some (.pointer (some ⟨4, 54, none⟩)) := (blk_cell HX.out 0).trans rfl
      have b1 : wr.cell? ⟨w.heap.size, 1, none⟩ = some (.pointer (some ⟨g, 0, none⟩)) := (blk_cell HX.out 1).trans rfl
      have b2 : wr.cell? ⟨w.heap.size, 2, none⟩ = some (.int .u64 150) := (blk_cell HX.out 2).trans rfl
      have el := as_elemV27 ⟨g, 0, none⟩ ⟨tb, 0, none⟩ wr hgc
      have st := as_set25 ⟨tb, 0, none⟩ ⟨wr.heap.size, 0, none⟩ e old (wr.alloc (.cells #[.pointer (some e)] 45)) ((blk_cell (blk_new _ _) 0).trans rfl) ((blk_cell (blk_alloc HT.out _) 0).trans rfl) (blk_frozen (blk_alloc HT.out _) 0)
      have hT2 := Aside0.mk (blk_put (blk_alloc HT.out (.cells #[.pointer (some e)] 45)) 0 (.pointer (some e)) (cs' := #[.pointer (some e)]) rfl)
      have hB2 := Aside0.mk (below_set (j := 0) (v := .pointer (some e)) (below_alloc HB.out (.cells #[.pointer (some e)] 45)) h0)
      clear hgc
      go_wp2
      go_ret
      exact ⟨rfl, hT2.out, hB2.out⟩
    | succ j =>
      have e0 : wraps (j + 1) (.iface 45 (.pointer (some e))) = .iface 51 (.agg #[wraps j (.iface 45 (.pointer (some e)))]) := rfl
      rw [e0]
      obtain ⟨u', x', hu⟩ := wraps_iface j 45 ((.pointer (some e)))
      have HU := Aside0.mk hu
      rw [hu]
      clear e0 hu
      go_wp2_with (first | (go_at_call 100; refine (unwrapO _ _ _ rfl _).mono ?_; rintro ev w3 ⟨rfl, hb⟩))
      go_roundg (gk - 1)
      case measure => omega
      case rel => exact ⟨⟨j, HU.out.symm, by omega⟩, ⟨below_step HB.out hb⟩, ⟨blk_below HG.out hb⟩, ⟨blk_below HT.out hb⟩, ⟨blk_below HX.out hb⟩⟩
set_option maxHeartbeats 8000000 in
set_option maxRecDepth 100000 in
theorem as_code (m : Int) (n : Nat) (g tb : Nat) (old : Value) (w0 w : World) (hB : Below w0.heap.size w0 w) (h0 : w0.heap.size ≤ tb) (hg : w.heap[g]? = some (.cells #[.pointer (some ⟨tb, 0, none⟩)] 92 (0, 0))) (ht : w.heap[tb]? = some (.cells #[old] 48 (0, 0))) :
    Calls Tryd.prog 45 #[wraps n (.iface 48 (.int .i64 m)), .iface 92 (.pointer (some ⟨tb, 0, none⟩)), .agg #[.pointer (some ⟨4, 92, none⟩), .pointer (some ⟨g, 0, none⟩), .int .u64 150], .iface 106 (.agg #[.pointer (some ⟨4, 48, none⟩)])] w fun ev w' => ev = .returned (.bool true) ∧ w'.heap[tb]? = some (.cells #[.int .i64 m] 48 (0, 0)) ∧ Below w0.heap.size w0 w' := by
  have h40 := @run_callFunc_extern Tryd.prog 40 _ ReflectliteType.typeOf Tryd.func40 (by kernel_rfl) (by kernel_rfl) (by kernel_rfl) (by kernel_rfl)
  have h106 := @run_callFunc_extern Tryd.prog 106 _ (ReflectliteType.relation "AssignableTo" ReflectliteType.assignableTo) Tryd.func106 (by kernel_rfl) (by kernel_rfl) (by kernel_rfl) (by kernel_rfl)
  have h42 := @run_callFunc_extern Tryd.prog 42 _ (fun args => ReflectliteValue.unpack (args.getD 0 (.tuple #[]))) Tryd.func42 (by kernel_rfl) (by kernel_rfl) (by kernel_rfl) (by kernel_rfl)
  have h53 := @run_callFunc_extern Tryd.prog 53 _ (ReflectliteValue.method (ReflectliteValue.valueError "reflectlite.Value.Elem" 0) ReflectliteValue.elem) Tryd.func53 (by kernel_rfl) (by kernel_rfl) (by kernel_rfl) (by kernel_rfl)
  have h54 := @run_callFunc_extern Tryd.prog 54 _ ReflectliteValue.set Tryd.func54 (by kernel_rfl) (by kernel_rfl) (by kernel_rfl) (by kernel_rfl)
  have tO51 := at_typeOf 51 (by decide)
  have tO45 := at_typeOf 45 (by decide)
  have tO48 := at_typeOf 48 (by decide)
  have tO74 := at_typeOf 74 (by decide)
  have mA := as_methodAssignableTo
  have a1 := at_no51
  have a2 := at_no51e
  have a3 := at_no45e
  have a4 := at_no74e
  have a5 := at_is48e
  have a6 := as_assignable25
  have x1 := at_noAsO
  have x2 := at_noAsW
  have x3 := at_noAsS
  have uO := is_hasUnwrapO
  have mO := is_methodUnwrapO
  have uW := is_hasUnwrapW
  have mU := is_methodUnwrap
  have u74 := at_noUnwrapS
  have z74 := at_noUnwrapsS
  have v25 := as_valueOf25
  have v48 := at_valueOf48
  have HB0 := Aside0.mk (below_alloc hB (.cells #[.pointer (some ⟨4, 92, none⟩), .pointer (some ⟨g, 0, none⟩), .int .u64 150] 84))
  have HG0 := Aside0.mk (blk_alloc hg (.cells #[.pointer (some ⟨4, 92, none⟩), .pointer (some ⟨g, 0, none⟩), .int .u64 150] 84))
  have HT0 := Aside0.mk (blk_alloc ht (.cells #[.pointer (some ⟨4, 92, none⟩), .pointer (some ⟨g, 0, none⟩), .int .u64 150] 84))
  have HX0 := Aside0.mk (blk_new w (.cells #[.pointer (some ⟨4, 92, none⟩), .pointer (some ⟨g, 0, none⟩), .int .u64 150] 84))
  clear hB hg ht
  go_enter Tryd.func45, Tryd.ntmps45
  go_wp2
  go_loopg [0] (n + 2) (fun kq v0 w' => ((∃ j : Nat, v0 = wraps j (.iface 48 (.int .i64 m)) ∧ j + 2 ≤ kq)) ∧ Aside0 (Below w0.heap.size w0 w') ∧ Aside0 (w'.heap[g]? = some (.cells #[.pointer (some ⟨tb, 0, none⟩)] 92 (0, 0))) ∧ Aside0 (w'.heap[tb]? = some (.cells #[old] 48 (0, 0))) ∧ Aside0 (w'.heap[w.heap.size]? = some (.cells #[.pointer (some ⟨4, 92, none⟩), .pointer (some ⟨g, 0, none⟩), .int .u64 150] 84 (0, 0))))
  case atStart => exact ⟨⟨n, rfl, Nat.le_refl _⟩, HB0, HG0, HT0, HX0⟩
  case round =>
    obtain ⟨hv, HB, HG, HT, HX⟩ := hrel
    obtain ⟨j, rfl, hj⟩ := hv
    cases j with
    | zero =>
      have e0 : wraps 0 (.iface 48 (.int .i64 m)) = .iface 48 (.int .i64 m) := rfl
      rw [e0]
      clear e0
      have hgc : wr.cell? ⟨g, 0, none⟩ = some (.pointer (some ⟨tb, 0, none⟩)) := (blk_cell HG.out 0).trans rfl
      have b0 : wr.cell? ⟨w.heap.size, 0, none⟩ = some (.pointer (some ⟨4, 92, none⟩)) := (blk_cell HX.out 0).trans rfl
      have b1 : wr.cell? ⟨w.heap.size, 1, none⟩ = some (.pointer (some ⟨g, 0, none⟩)) := (blk_cell HX.out 1).trans rfl
      have b2 : wr.cell? ⟨w.heap.size, 2, none⟩ = some (.int .u64 150) := (blk_cell HX.out 2).trans rfl
      have el := at_elemV92 ⟨g, 0, none⟩ ⟨tb, 0, none⟩ wr hgc
      have st := at_set48 ⟨tb, 0, none⟩ ⟨wr.heap.size, 0, none⟩ m old (wr.alloc (.cells #[.int .i64 m] 48)) ((blk_cell (blk_new _ _) 0).trans rfl) ((blk_cell (blk_alloc HT.out _) 0).trans rfl) (blk_frozen (blk_alloc HT.out _) 0)
      have hT2 := Aside0.mk (blk_put (blk_alloc HT.out (.cells #[.int .i64 m] 48)) 0 (.int .i64 m) (cs' := #[.int .i64 m]) rfl)
      have hB2 := Aside0.mk (below_set (j := 0) (v := .int .i64 m) (below_alloc HB.out (.cells #[.int .i64 m] 48)) h0)
      clear hgc
      go_wp2
      go_ret
      exact ⟨rfl, hT2.out, hB2.out⟩
    | succ j =>
      have e0 : wraps (j + 1) (.iface 48 (.int .i64 m)) = .iface 51 (.agg #[wraps j (.iface 48 (.int .i64 m))]) := rfl
      rw [e0]
      obtain ⟨u', x', hu⟩ := wraps_iface j 48 ((.int .i64 m))
      have HU := Aside0.mk hu
      rw [hu]
      clear e0 hu
      go_wp2_with (first | (go_at_call 100; refine (unwrapO _ _ _ rfl _).mono ?_; rintro ev w3 ⟨rfl, hb⟩))
      go_roundg (gk - 1)
      case measure => omega
      case rel => exact ⟨⟨j, HU.out.symm, by omega⟩, ⟨below_step HB.out hb⟩, ⟨blk_below HG.out hb⟩, ⟨blk_below HT.out hb⟩, ⟨blk_below HX.out hb⟩⟩
set_option maxHeartbeats 8000000 in
set_option maxRecDepth 100000 in
theorem as_codeW (e : Addr) (n : Nat) (g tb : Nat) (old : Value) (w0 w : World) (hB : Below w0.heap.size w0 w) (h0 : w0.heap.size ≤ tb) (hg : w.heap[g]? = some (.cells #[.pointer (some ⟨tb, 0, none⟩)] 92 (0, 0))) (ht : w.heap[tb]? = some (.cells #[old] 48 (0, 0))) :
    Calls Tryd.prog 45 #[wraps n (.iface 45 (.pointer (some e))), .iface 92 (.pointer (some ⟨tb, 0, none⟩)), .agg #[.pointer (some ⟨4, 92, none⟩), .pointer (some ⟨g, 0, none⟩), .int .u64 150], .iface 106 (.agg #[.pointer (some ⟨4, 48, none⟩)])] w fun ev w' => ev = .returned (.bool true) ∧ w'.heap[tb]? = some (.cells #[.int .i64 80] 48 (0, 0)) ∧ Below w0.heap.size w0 w' := by
  have h40 := @run_callFunc_extern Tryd.prog 40 _ ReflectliteType.typeOf Tryd.func40 (by kernel_rfl) (by kernel_rfl) (by kernel_rfl) (by kernel_rfl)
  have h106 := @run_callFunc_extern Tryd.prog 106 _ (ReflectliteType.relation "AssignableTo" ReflectliteType.assignableTo) Tryd.func106 (by kernel_rfl) (by kernel_rfl) (by kernel_rfl) (by kernel_rfl)
  have h42 := @run_callFunc_extern Tryd.prog 42 _ (fun args => ReflectliteValue.unpack (args.getD 0 (.tuple #[]))) Tryd.func42 (by kernel_rfl) (by kernel_rfl) (by kernel_rfl) (by kernel_rfl)
  have h53 := @run_callFunc_extern Tryd.prog 53 _ (ReflectliteValue.method (ReflectliteValue.valueError "reflectlite.Value.Elem" 0) ReflectliteValue.elem) Tryd.func53 (by kernel_rfl) (by kernel_rfl) (by kernel_rfl) (by kernel_rfl)
  have h54 := @run_callFunc_extern Tryd.prog 54 _ ReflectliteValue.set Tryd.func54 (by kernel_rfl) (by kernel_rfl) (by kernel_rfl) (by kernel_rfl)
  have tO51 := at_typeOf 51 (by decide)
  have tO45 := at_typeOf 45 (by decide)
  have tO48 := at_typeOf 48 (by decide)
  have tO74 := at_typeOf 74 (by decide)
  have mA := as_methodAssignableTo
  have a1 := at_no51
  have a2 := at_no51e
  have a3 := at_no45e
  have a4 := at_no74e
  have a5 := at_is48e
  have a6 := as_assignable25
  have x1 := at_noAsO
  have x2 := at_noAsW
  have x3 := at_noAsS
  have uO := is_hasUnwrapO
  have mO := is_methodUnwrapO
  have uW := is_hasUnwrapW
  have mU := is_methodUnwrap
  have u74 := at_noUnwrapS
  have z74 := at_noUnwrapsS
  have v25 := as_valueOf25
  have v48 := at_valueOf48
  have HB0 := Aside0.mk (below_alloc hB (.cells #[.pointer (some ⟨4, 92, none⟩), .pointer (some ⟨g, 0, none⟩), .int .u64 150] 84))
  have HG0 := Aside0.mk (blk_alloc hg (.cells #[.pointer (some ⟨4, 92, none⟩), .pointer (some ⟨g, 0, none⟩), .int .u64 150] 84))
  have HT0 := Aside0.mk (blk_alloc ht (.cells #[.pointer (some ⟨4, 92, none⟩), .pointer (some ⟨g, 0, none⟩), .int .u64 150] 84))
  have HX0 := Aside0.mk (blk_new w (.cells #[.pointer (some ⟨4, 92, none⟩), .pointer (some ⟨g, 0, none⟩), .int .u64 150] 84))
  clear hB hg ht
  go_enter Tryd.func45, Tryd.ntmps45
  go_wp2
  go_loopg [0] (n + 2) (fun kq v0 w' => ((∃ j : Nat, v0 = wraps j (.iface 45 (.pointer (some e))) ∧ j + 2 ≤ kq) ∨ (v0 = .iface 48 (.int .i64 80) ∧ 1 ≤ kq)) ∧ Aside0 (Below w0.heap.size w0 w') ∧ Aside0 (w'.heap[g]? = some (.cells #[.pointer (some ⟨tb, 0, none⟩)] 92 (0, 0))) ∧ Aside0 (w'.heap[tb]? = some (.cells #[old] 48 (0, 0))) ∧ Aside0 (w'.heap[w.heap.size]? = some (.cells #[.pointer (some ⟨4, 92, none⟩), .pointer (some ⟨g, 0, none⟩), .int .u64 150] 84 (0, 0))))
  case atStart => exact ⟨.inl ⟨n, rfl, Nat.le_refl _⟩, HB0, HG0, HT0, HX0⟩
  case round =>
    obtain ⟨hv, HB, HG, HT, HX⟩ := hrel
    rcases hv with ⟨j, rfl, hj⟩ | ⟨rfl, hj⟩
    · cases j with
      | zero =>
        have e0 : wraps 0 (.iface 45 (.pointer (some e))) = .iface 45 (.pointer (some e)) := rfl
        rw [e0]
        clear e0
        go_wp2
        go_roundg (gk - 1)
        case measure => omega
        case rel => exact ⟨.inr ⟨rfl, by omega⟩, HB, HG, HT, HX⟩
      | succ j =>
        have e0 : wraps (j + 1) (.iface 45 (.pointer (some e))) = .iface 51 (.agg #[wraps j (.iface 45 (.pointer (some e)))]) := rfl
        rw [e0]
        obtain ⟨u', x', hu⟩ := wraps_iface j 45 ((.pointer (some e)))
        have HU := Aside0.mk hu
        rw [hu]
        clear e0 hu
        go_wp2_with (first | (go_at_call 100; refine (unwrapO _ _ _ rfl _).mono ?_; rintro ev w3 ⟨rfl, hb⟩))
        go_roundg (gk - 1)
        case measure => omega
        case rel => exact ⟨.inl ⟨j, HU.out.symm, by omega⟩, ⟨below_step HB.out hb⟩, ⟨blk_below HG.out hb⟩, ⟨blk_below HT.out hb⟩, ⟨blk_below HX.out hb⟩⟩
    · have hgc : wr.cell? ⟨g, 0, none⟩ = some (.pointer (some ⟨tb, 0, none⟩)) := (blk_cell HG.out 0).trans rfl
      have b0 : wr.cell? ⟨w.heap.size, 0, none⟩ = some (.pointer (some ⟨4, 92, none⟩)) := (blk_cell HX.out 0).trans rfl
      have b1 : wr.cell? ⟨w.heap.size, 1, none⟩ = some (.pointer (some ⟨g, 0, none⟩)) := (blk_cell HX.out 1).trans rfl
      have b2 : wr.cell? ⟨w.heap.size, 2, none⟩ = some (.int .u64 150) := (blk_cell HX.out 2).trans rfl
      have el := at_elemV92 ⟨g, 0, none⟩ ⟨tb, 0, none⟩ wr hgc
      have st := at_set48 ⟨tb, 0, none⟩ ⟨wr.heap.size, 0, none⟩ 80 old (wr.alloc (.cells #[.int .i64 80] 48)) ((blk_cell (blk_new _ _) 0).trans rfl) ((blk_cell (blk_alloc HT.out _) 0).trans rfl) (blk_frozen (blk_alloc HT.out _) 0)
      have hT2 := Aside0.mk (blk_put (blk_alloc HT.out (.cells #[.int .i64 80] 48)) 0 (.int .i64 80) (cs' := #[.int .i64 80]) rfl)
      have hB2 := Aside0.mk (below_set (j := 0) (v := .int .i64 80) (below_alloc HB.out (.cells #[.int .i64 80] 48)) h0)
      clear hgc
      go_wp2
      go_ret
      exact ⟨rfl, hT2.out, hB2.out⟩
set_option maxHeartbeats 8000000 in
set_option maxRecDepth 100000 in
theorem as_codeS (e : Addr) (n : Nat) (g tb : Nat) (old : Value) (w0 w : World) (hB : Below w0.heap.size w0 w) (h0 : w0.heap.size ≤ tb) (hg : w.heap[g]? = some (.cells #[.pointer (some ⟨tb, 0, none⟩)] 92 (0, 0))) (ht : w.heap[tb]? = some (.cells #[old] 48 (0, 0))) :
    Calls Tryd.prog 45 #[wraps n (.iface 74 (.pointer (some e))), .iface 92 (.pointer (some ⟨tb, 0, none⟩)), .agg #[.pointer (some ⟨4, 92, none⟩), .pointer (some ⟨g, 0, none⟩), .int .u64 150], .iface 106 (.agg #[.pointer (some ⟨4, 48, none⟩)])] w fun ev w' => ev = .returned (.bool false) ∧ w'.heap[tb]? = some (.cells #[old] 48 (0, 0)) ∧ Below w0.heap.size w0 w' := by
  have h40 := @run_callFunc_extern Tryd.prog 40 _ ReflectliteType.typeOf Tryd.func40 (by kernel_rfl) (by kernel_rfl) (by kernel_rfl) (by kernel_rfl)
  have h106 := @run_callFunc_extern Tryd.prog 106 _ (ReflectliteType.relation "AssignableTo" ReflectliteType.assignableTo) Tryd.func106 (by kernel_rfl) (by kernel_rfl) (by kernel_rfl) (by kernel_rfl)
  have h42 := @run_callFunc_extern Tryd.prog 42 _ (fun args => ReflectliteValue.unpack (args.getD 0 (.tuple #[]))) Tryd.func42 (by kernel_rfl) (by kernel_rfl) (by kernel_rfl) (by kernel_rfl)
  have h53 := @run_callFunc_extern Tryd.prog 53 _ (ReflectliteValue.method (ReflectliteValue.valueError "reflectlite.Value.Elem" 0) ReflectliteValue.elem) Tryd.func53 (by kernel_rfl) (by kernel_rfl) (by kernel_rfl) (by kernel_rfl)
  have h54 := @run_callFunc_extern Tryd.prog 54 _ ReflectliteValue.set Tryd.func54 (by kernel_rfl) (by kernel_rfl) (by kernel_rfl) (by kernel_rfl)
  have tO51 := at_typeOf 51 (by decide)
  have tO45 := at_typeOf 45 (by decide)
  have tO48 := at_typeOf 48 (by decide)
  have tO74 := at_typeOf 74 (by decide)
  have mA := as_methodAssignableTo
  have a1 := at_no51
  have a2 := at_no51e
  have a3 := at_no45e
  have a4 := at_no74e
  have a5 := at_is48e
  have a6 := as_assignable25
  have x1 := at_noAsO
  have x2 := at_noAsW
  have x3 := at_noAsS
  have uO := is_hasUnwrapO
  have mO := is_methodUnwrapO
  have uW := is_hasUnwrapW
  have mU := is_methodUnwrap
  have u74 := at_noUnwrapS
  have z74 := at_noUnwrapsS
  have v25 := as_valueOf25
  have v48 := at_valueOf48
  have HB0 := Aside0.mk (below_alloc hB (.cells #[.pointer (some ⟨4, 92, none⟩), .pointer (some ⟨g, 0, none⟩), .int .u64 150] 84))
  have HG0 := Aside0.mk (blk_alloc hg (.cells #[.pointer (some ⟨4, 92, none⟩), .pointer (some ⟨g, 0, none⟩), .int .u64 150] 84))
  have HT0 := Aside0.mk (blk_alloc ht (.cells #[.pointer (some ⟨4, 92, none⟩), .pointer (some ⟨g, 0, none⟩), .int .u64 150] 84))
  have HX0 := Aside0.mk (blk_new w (.cells #[.pointer (some ⟨4, 92, none⟩), .pointer (some ⟨g, 0, none⟩), .int .u64 150] 84))
  clear hB hg ht
  go_enter Tryd.func45, Tryd.ntmps45
  go_wp2
  go_loopg [0] (n + 2) (fun kq v0 w' => ((∃ j : Nat, v0 = wraps j (.iface 74 (.pointer (some e))) ∧ j + 2 ≤ kq)) ∧ Aside0 (Below w0.heap.size w0 w') ∧ Aside0 (w'.heap[g]? = some (.cells #[.pointer (some ⟨tb, 0, none⟩)] 92 (0, 0))) ∧ Aside0 (w'.heap[tb]? = some (.cells #[old] 48 (0, 0))) ∧ Aside0 (w'.heap[w.heap.size]? = some (.cells #[.pointer (some ⟨4, 92, none⟩), .pointer (some ⟨g, 0, none⟩), .int .u64 150] 84 (0, 0))))
  case atStart => exact ⟨⟨n, rfl, Nat.le_refl _⟩, HB0, HG0, HT0, HX0⟩
  case round =>
    obtain ⟨hv, HB, HG, HT, HX⟩ := hrel
    obtain ⟨j, rfl, hj⟩ := hv
    cases j with
    | zero =>
      have e0 : wraps 0 (.iface 74 (.pointer (some e))) = .iface 74 (.pointer (some e)) := rfl
      rw [e0]
      clear e0
      go_wp2
      go_ret
      exact ⟨rfl, HT.out, HB.out⟩
    | succ j =>
      have e0 : wraps (j + 1) (.iface 74 (.pointer (some e))) = .iface 51 (.agg #[wraps j (.iface 74 (.pointer (some e)))]) := rfl
      rw [e0]
      obtain ⟨u', x', hu⟩ := wraps_iface j 74 ((.pointer (some e)))
      have HU := Aside0.mk hu
      rw [hu]
      clear e0 hu
      go_wp2_with (first | (go_at_call 100; refine (unwrapO _ _ _ rfl _).mono ?_; rintro ev w3 ⟨rfl, hb⟩))
      go_roundg (gk - 1)
      case measure => omega
      case rel => exact ⟨⟨j, HU.out.symm, by omega⟩, ⟨below_step HB.out hb⟩, ⟨blk_below HG.out hb⟩, ⟨blk_below HT.out hb⟩, ⟨blk_below HX.out hb⟩⟩
end Go.Proofs.YteleaflneejipaaDoor
