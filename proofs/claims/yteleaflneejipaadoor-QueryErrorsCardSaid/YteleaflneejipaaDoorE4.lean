/- errors.Is, errors.As, query.Code at chains of errors; errors.New; (*Wrong).Error at nil: by contracts; written by a program. -/
import Derived.Test.YteleaflneejipaaDoorE3
import Derived.Test.YteleaflneejipaaDoorA7
import Derived.Deep.QuietTactic
import Derived.BigQuiet
namespace Go.Proofs.YteleaflneejipaaDoor
open Go.RowKit Go.Extern.Stop Go.Stop Go.Extern Go.Proofs.YteleaflneejipaaDoorW.PrintWords
set_option linter.unusedVariables false

theorem is_self (w : World) : Calls Tryd.prog 14 #[.iface 48 (.int .i64 80), .iface 48 (.int .i64 80)] w fun ev w' => ev = .returned (.bool true) ∧ w' = w := by
  have h8 := @run_callFunc_extern Tryd.prog 40 _ Extern.ReflectliteType.typeOf Tryd.func40 (by kernel_rfl) (by kernel_rfl) (by kernel_rfl) (by kernel_rfl)
  have h32 := @run_callFunc_extern Tryd.prog 107 _ (Extern.ReflectliteType.method fun t => do Extern.Rtype.noPackHeld "Comparable" t; pure (.bool (← typeInfo t).comparable)) Tryd.func107 (by kernel_rfl) (by kernel_rfl) (by kernel_rfl) (by kernel_rfl)
  have tT := is_typeOf
  have cT := is_comparable
  have mR := is_methodComparable
  have q1 := is_eq
  go_enter Tryd.func14, Tryd.ntmps14
  go_wp2
  refine wp_loop_rounds 1 ?_
  rw [rounds_succ]
  go_wp2
  go_ret
  exact ⟨rfl, rfl⟩
theorem is_chain (a : Addr) (t : Int) (b : Bool) (ht : ((80 : Int) == t) = b) (n : Nat) (w : World) :
    Calls Tryd.prog 14 #[wraps n (.iface 45 (.pointer (some a))), .iface 48 (.int .i64 t)] w fun ev w' => ev = .returned (.bool b) ∧ Below w.heap.size w w' := by
  have h8 := @run_callFunc_extern Tryd.prog 40 _ Extern.ReflectliteType.typeOf Tryd.func40 (by kernel_rfl) (by kernel_rfl) (by kernel_rfl) (by kernel_rfl)
  have h32 := @run_callFunc_extern Tryd.prog 107 _ (Extern.ReflectliteType.method fun t => do Extern.Rtype.noPackHeld "Comparable" t; pure (.bool (← typeInfo t).comparable)) Tryd.func107 (by kernel_rfl) (by kernel_rfl) (by kernel_rfl) (by kernel_rfl)
  have tT := is_typeOf
  have cT := is_comparable
  have mR := is_methodComparable
  have HC := Aside0.mk (is_chain41 a t b ht n w)
  obtain ⟨u', x', hu⟩ := wraps_iface n 45 (.pointer (some a))
  rw [hu] at HC ⊢
  clear hu ht
  go_enter Tryd.func14, Tryd.ntmps14
  go_wp2_with (go_at_call 41; refine HC.out.mono ?_; rintro ev w2 ⟨rfl, hb⟩)
  go_ret
  exact ⟨rfl, hb⟩
theorem new_any (s : ByteArray) (w : World) : Calls Tryd.prog 13 #[.string s] w fun ev w' => ev = .returned (.iface 74 (.pointer (some ⟨w.heap.size, 0, none⟩))) ∧ Below w.heap.size w w' := by
  go_enter Tryd.func13, Tryd.ntmps13
  go_wp2
  go_ret
  exact ⟨rfl, below_alloc (Below.refl _ _) _⟩
theorem unwrap_nil (w : World) : Calls Tryd.prog 16 #[.pointer none] w fun ev w' => ev = .returned (.iface 48 (.int .i64 80)) ∧ w' = w := by
  go_enter Tryd.func16, Tryd.ntmps16
  go_wp2
  go_ret
  exact ⟨rfl, rfl⟩
set_option maxHeartbeats 8000000 in
set_option maxRecDepth 100000 in
theorem asW (e : Addr) (n : Nat) (tb : Nat) (old : Value) (w0 w : World) (hg : HandleAt w) (hB : Below w0.heap.size w0 w) (h0 : w0.heap.size ≤ tb) (ht : w.heap[tb]? = some (.cells #[old] 45 (0, 0))) :
    Calls Tryd.prog 15 #[wraps n (.iface 45 (.pointer (some e))), .iface 54 (.pointer (some ⟨tb, 0, none⟩))] w fun ev w' => ev = .returned (.bool true) ∧ w'.heap[tb]? = some (.cells #[.pointer (some e)] 45 (0, 0)) ∧ Below w0.heap.size w0 w' := by
  have h6 := @run_callFunc_extern Tryd.prog 42 _ (fun args => ReflectliteValue.unpack (args.getD 0 (.tuple #[]))) Tryd.func42 (by kernel_rfl) (by kernel_rfl) (by kernel_rfl) (by kernel_rfl)
  have h7 := @run_callFunc_extern Tryd.prog 43 _ (ReflectliteValue.methodAny (ReflectliteValue.valueError "reflectlite.Value.Type" 0) (fun t _ _ _ => ReflectliteType.toType t)) Tryd.func43 (by kernel_rfl) (by kernel_rfl) (by kernel_rfl) (by kernel_rfl)
  have h8 := @run_callFunc_extern Tryd.prog 44 _ (ReflectliteValue.method (ReflectliteValue.valueError "reflectlite.Value.IsNil" 0) ReflectliteValue.isNil) Tryd.func44 (by kernel_rfl) (by kernel_rfl) (by kernel_rfl) (by kernel_rfl)
  have h27 := @run_callFunc_extern Tryd.prog 95 _ (ReflectliteType.abiMethod fun t => do pure (.int .u8 (← Rtype.kind t))) Tryd.func95 (by kernel_rfl) (by kernel_rfl) (by kernel_rfl) (by kernel_rfl)
  have h37 := @run_callFunc_extern Tryd.prog 108 _ (ReflectliteType.method ReflectliteType.elem) Tryd.func108 (by kernel_rfl) (by kernel_rfl) (by kernel_rfl) (by kernel_rfl)
  have h38 := @run_callFunc_extern Tryd.prog 109 _ (ReflectliteType.relation "Implements" ReflectliteType.implements_) Tryd.func109 (by kernel_rfl) (by kernel_rfl) (by kernel_rfl) (by kernel_rfl)
  have f6 := as_valueOf27
  have f7 := as_type27
  have mK := as_methodKind
  have mE := as_methodElem
  have mI := as_methodImplements
  have k27 := as_kind27
  have k25 := as_kind25
  have e27 := as_elem27
  have i25 := as_implements25
  have hgl := hg.lt
  have hg2 : ((w.alloc (.cells #[.pointer (some ⟨tb, 0, none⟩)] 54)).alloc (.cells #[.pointer (some ⟨4, 54, none⟩), .pointer (some ⟨w.heap.size, 0, none⟩), .int .u64 150] 84)).cell? ⟨0, 0, none⟩ = some (.iface 106 (.agg #[.pointer (some ⟨4, 42, none⟩)])) := HandleAt.below hg (below_alloc (below_alloc (Below.refl _ _) _) _)
  have hgb : ((w.alloc (.cells #[.pointer (some ⟨tb, 0, none⟩)] 54)).alloc (.cells #[.pointer (some ⟨4, 54, none⟩), .pointer (some ⟨w.heap.size, 0, none⟩), .int .u64 150] 84)).heap[w.heap.size]? = some (.cells #[.pointer (some ⟨tb, 0, none⟩)] 54 (0, 0)) := blk_alloc (blk_new _ _) _
  have n8 := as_isNil27 ⟨w.heap.size, 0, none⟩ ⟨tb, 0, none⟩ ((w.alloc (.cells #[.pointer (some ⟨tb, 0, none⟩)] 54)).alloc (.cells #[.pointer (some ⟨4, 54, none⟩), .pointer (some ⟨w.heap.size, 0, none⟩), .int .u64 150] 84)) ((blk_cell hgb 0).trans rfl)
  have HC := Aside0.mk (as_wrong e n w.heap.size tb old w0 ((w.alloc (.cells #[.pointer (some ⟨tb, 0, none⟩)] 54)).alloc (.cells #[.pointer (some ⟨4, 54, none⟩), .pointer (some ⟨w.heap.size, 0, none⟩), .int .u64 150] 84)) (below_alloc (below_alloc hB _) _) h0 hgb (blk_alloc (blk_alloc ht _) _))
  obtain ⟨u', x', hu⟩ := wraps_iface n 45 (.pointer (some e))
  rw [hu] at HC ⊢
  clear hu hgb hB ht hg
  go_enter Tryd.func15, Tryd.ntmps15
  go_wp2_with (go_at_call 45; refine HC.out.mono ?_; rintro ev w2 ⟨rfl, ht, hb⟩)
  go_ret
  exact ⟨rfl, ht, hb⟩
set_option maxHeartbeats 8000000 in
set_option maxRecDepth 100000 in
theorem asC (m : Int) (n : Nat) (tb : Nat) (old : Value) (w0 w : World) (hg : HandleAt w) (hB : Below w0.heap.size w0 w) (h0 : w0.heap.size ≤ tb) (ht : w.heap[tb]? = some (.cells #[old] 48 (0, 0))) :
    Calls Tryd.prog 15 #[wraps n (.iface 48 (.int .i64 m)), .iface 92 (.pointer (some ⟨tb, 0, none⟩))] w fun ev w' => ev = .returned (.bool true) ∧ w'.heap[tb]? = some (.cells #[.int .i64 m] 48 (0, 0)) ∧ Below w0.heap.size w0 w' := by
  have h6 := @run_callFunc_extern Tryd.prog 42 _ (fun args => ReflectliteValue.unpack (args.getD 0 (.tuple #[]))) Tryd.func42 (by kernel_rfl) (by kernel_rfl) (by kernel_rfl) (by kernel_rfl)
  have h7 := @run_callFunc_extern Tryd.prog 43 _ (ReflectliteValue.methodAny (ReflectliteValue.valueError "reflectlite.Value.Type" 0) (fun t _ _ _ => ReflectliteType.toType t)) Tryd.func43 (by kernel_rfl) (by kernel_rfl) (by kernel_rfl) (by kernel_rfl)
  have h8 := @run_callFunc_extern Tryd.prog 44 _ (ReflectliteValue.method (ReflectliteValue.valueError "reflectlite.Value.IsNil" 0) ReflectliteValue.isNil) Tryd.func44 (by kernel_rfl) (by kernel_rfl) (by kernel_rfl) (by kernel_rfl)
  have h27 := @run_callFunc_extern Tryd.prog 95 _ (ReflectliteType.abiMethod fun t => do pure (.int .u8 (← Rtype.kind t))) Tryd.func95 (by kernel_rfl) (by kernel_rfl) (by kernel_rfl) (by kernel_rfl)
  have h37 := @run_callFunc_extern Tryd.prog 108 _ (ReflectliteType.method ReflectliteType.elem) Tryd.func108 (by kernel_rfl) (by kernel_rfl) (by kernel_rfl) (by kernel_rfl)
  have h38 := @run_callFunc_extern Tryd.prog 109 _ (ReflectliteType.relation "Implements" ReflectliteType.implements_) Tryd.func109 (by kernel_rfl) (by kernel_rfl) (by kernel_rfl) (by kernel_rfl)
  have f6 := at_valueOf92
  have f7 := at_type92
  have mK := as_methodKind
  have mE := as_methodElem
  have mI := as_methodImplements
  have k27 := at_kind92
  have k25 := at_kind48
  have e27 := at_elem92
  have i25 := at_implements48
  have hgl := hg.lt
  have hg2 : ((w.alloc (.cells #[.pointer (some ⟨tb, 0, none⟩)] 92)).alloc (.cells #[.pointer (some ⟨4, 92, none⟩), .pointer (some ⟨w.heap.size, 0, none⟩), .int .u64 150] 84)).cell? ⟨0, 0, none⟩ = some (.iface 106 (.agg #[.pointer (some ⟨4, 42, none⟩)])) := HandleAt.below hg (below_alloc (below_alloc (Below.refl _ _) _) _)
  have hgb : ((w.alloc (.cells #[.pointer (some ⟨tb, 0, none⟩)] 92)).alloc (.cells #[.pointer (some ⟨4, 92, none⟩), .pointer (some ⟨w.heap.size, 0, none⟩), .int .u64 150] 84)).heap[w.heap.size]? = some (.cells #[.pointer (some ⟨tb, 0, none⟩)] 92 (0, 0)) := blk_alloc (blk_new _ _) _
  have n8 := at_isNil92 ⟨w.heap.size, 0, none⟩ ⟨tb, 0, none⟩ ((w.alloc (.cells #[.pointer (some ⟨tb, 0, none⟩)] 92)).alloc (.cells #[.pointer (some ⟨4, 92, none⟩), .pointer (some ⟨w.heap.size, 0, none⟩), .int .u64 150] 84)) ((blk_cell hgb 0).trans rfl)
  have HC := Aside0.mk (as_code m n w.heap.size tb old w0 ((w.alloc (.cells #[.pointer (some ⟨tb, 0, none⟩)] 92)).alloc (.cells #[.pointer (some ⟨4, 92, none⟩), .pointer (some ⟨w.heap.size, 0, none⟩), .int .u64 150] 84)) (below_alloc (below_alloc hB _) _) h0 hgb (blk_alloc (blk_alloc ht _) _))
  obtain ⟨u', x', hu⟩ := wraps_iface n 48 (.int .i64 m)
  rw [hu] at HC ⊢
  clear hu hgb hB ht hg
  go_enter Tryd.func15, Tryd.ntmps15
  go_wp2_with (go_at_call 45; refine HC.out.mono ?_; rintro ev w2 ⟨rfl, ht, hb⟩)
  go_ret
  exact ⟨rfl, ht, hb⟩
set_option maxHeartbeats 8000000 in
set_option maxRecDepth 100000 in
theorem asCW (e : Addr) (n : Nat) (tb : Nat) (old : Value) (w0 w : World) (hg : HandleAt w) (hB : Below w0.heap.size w0 w) (h0 : w0.heap.size ≤ tb) (ht : w.heap[tb]? = some (.cells #[old] 48 (0, 0))) :
    Calls Tryd.prog 15 #[wraps n (.iface 45 (.pointer (some e))), .iface 92 (.pointer (some ⟨tb, 0, none⟩))] w fun ev w' => ev = .returned (.bool true) ∧ w'.heap[tb]? = some (.cells #[.int .i64 80] 48 (0, 0)) ∧ Below w0.heap.size w0 w' := by
  have h6 := @run_callFunc_extern Tryd.prog 42 _ (fun args => ReflectliteValue.unpack (args.getD 0 (.tuple #[]))) Tryd.func42 (by kernel_rfl) (by kernel_rfl) (by kernel_rfl) (by kernel_rfl)
  have h7 := @run_callFunc_extern Tryd.prog 43 _ (ReflectliteValue.methodAny (ReflectliteValue.valueError "reflectlite.Value.Type" 0) (fun t _ _ _ => ReflectliteType.toType t)) Tryd.func43 (by kernel_rfl) (by kernel_rfl) (by kernel_rfl) (by kernel_rfl)
  have h8 := @run_callFunc_extern Tryd.prog 44 _ (ReflectliteValue.method (ReflectliteValue.valueError "reflectlite.Value.IsNil" 0) ReflectliteValue.isNil) Tryd.func44 (by kernel_rfl) (by kernel_rfl) (by kernel_rfl) (by kernel_rfl)
  have h27 := @run_callFunc_extern Tryd.prog 95 _ (ReflectliteType.abiMethod fun t => do pure (.int .u8 (← Rtype.kind t))) Tryd.func95 (by kernel_rfl) (by kernel_rfl) (by kernel_rfl) (by kernel_rfl)
  have h37 := @run_callFunc_extern Tryd.prog 108 _ (ReflectliteType.method ReflectliteType.elem) Tryd.func108 (by kernel_rfl) (by kernel_rfl) (by kernel_rfl) (by kernel_rfl)
  have h38 := @run_callFunc_extern Tryd.prog 109 _ (ReflectliteType.relation "Implements" ReflectliteType.implements_) Tryd.func109 (by kernel_rfl) (by kernel_rfl) (by kernel_rfl) (by kernel_rfl)
  have f6 := at_valueOf92
  have f7 := at_type92
  have mK := as_methodKind
  have mE := as_methodElem
  have mI := as_methodImplements
  have k27 := at_kind92
  have k25 := at_kind48
  have e27 := at_elem92
  have i25 := at_implements48
  have hgl := hg.lt
  have hg2 : ((w.alloc (.cells #[.pointer (some ⟨tb, 0, none⟩)] 92)).alloc (.cells #[.pointer (some ⟨4, 92, none⟩), .pointer (some ⟨w.heap.size, 0, none⟩), .int .u64 150] 84)).cell? ⟨0, 0, none⟩ = some (.iface 106 (.agg #[.pointer (some ⟨4, 42, none⟩)])) := HandleAt.below hg (below_alloc (below_alloc (Below.refl _ _) _) _)
  have hgb : ((w.alloc (.cells #[.pointer (some ⟨tb, 0, none⟩)] 92)).alloc (.cells #[.pointer (some ⟨4, 92, none⟩), .pointer (some ⟨w.heap.size, 0, none⟩), .int .u64 150] 84)).heap[w.heap.size]? = some (.cells #[.pointer (some ⟨tb, 0, none⟩)] 92 (0, 0)) := blk_alloc (blk_new _ _) _
  have n8 := at_isNil92 ⟨w.heap.size, 0, none⟩ ⟨tb, 0, none⟩ ((w.alloc (.cells #[.pointer (some ⟨tb, 0, none⟩)] 92)).alloc (.cells #[.pointer (some ⟨4, 92, none⟩), .pointer (some ⟨w.heap.size, 0, none⟩), .int .u64 150] 84)) ((blk_cell hgb 0).trans rfl)
  have HC := Aside0.mk (as_codeW e n w.heap.size tb old w0 ((w.alloc (.cells #[.pointer (some ⟨tb, 0, none⟩)] 92)).alloc (.cells #[.pointer (some ⟨4, 92, none⟩), .pointer (some ⟨w.heap.size, 0, none⟩), .int .u64 150] 84)) (below_alloc (below_alloc hB _) _) h0 hgb (blk_alloc (blk_alloc ht _) _))
  obtain ⟨u', x', hu⟩ := wraps_iface n 45 (.pointer (some e))
  rw [hu] at HC ⊢
  clear hu hgb hB ht hg
  go_enter Tryd.func15, Tryd.ntmps15
  go_wp2_with (go_at_call 45; refine HC.out.mono ?_; rintro ev w2 ⟨rfl, ht, hb⟩)
  go_ret
  exact ⟨rfl, ht, hb⟩
set_option maxHeartbeats 8000000 in
set_option maxRecDepth 100000 in
theorem asCS (e : Addr) (n : Nat) (tb : Nat) (old : Value) (w0 w : World) (hg : HandleAt w) (hB : Below w0.heap.size w0 w) (h0 : w0.heap.size ≤ tb) (ht : w.heap[tb]? = some (.cells #[old] 48 (0, 0))) :
    Calls Tryd.prog 15 #[wraps n (.iface 74 (.pointer (some e))), .iface 92 (.pointer (some ⟨tb, 0, none⟩))] w fun ev w' => ev = .returned (.bool false) ∧ w'.heap[tb]? = some (.cells #[old] 48 (0, 0)) ∧ Below w0.heap.size w0 w' := by
  have h6 := @run_callFunc_extern Tryd.prog 42 _ (fun args => ReflectliteValue.unpack (args.getD 0 (.tuple #[]))) Tryd.func42 (by kernel_rfl) (by kernel_rfl) (by kernel_rfl) (by kernel_rfl)
  have h7 := @run_callFunc_extern Tryd.prog 43 _ (ReflectliteValue.methodAny (ReflectliteValue.valueError "reflectlite.Value.Type" 0) (fun t _ _ _ => ReflectliteType.toType t)) Tryd.func43 (by kernel_rfl) (by kernel_rfl) (by kernel_rfl) (by kernel_rfl)
  have h8 := @run_callFunc_extern Tryd.prog 44 _ (ReflectliteValue.method (ReflectliteValue.valueError "reflectlite.Value.IsNil" 0) ReflectliteValue.isNil) Tryd.func44 (by kernel_rfl) (by kernel_rfl) (by kernel_rfl) (by kernel_rfl)
  have h27 := @run_callFunc_extern Tryd.prog 95 _ (ReflectliteType.abiMethod fun t => do pure (.int .u8 (← Rtype.kind t))) Tryd.func95 (by kernel_rfl) (by kernel_rfl) (by kernel_rfl) (by kernel_rfl)
  have h37 := @run_callFunc_extern Tryd.prog 108 _ (ReflectliteType.method ReflectliteType.elem) Tryd.func108 (by kernel_rfl) (by kernel_rfl) (by kernel_rfl) (by kernel_rfl)
  have h38 := @run_callFunc_extern Tryd.prog 109 _ (ReflectliteType.relation "Implements" ReflectliteType.implements_) Tryd.func109 (by kernel_rfl) (by kernel_rfl) (by kernel_rfl) (by kernel_rfl)
  have f6 := at_valueOf92
  have f7 := at_type92
  have mK := as_methodKind
  have mE := as_methodElem
  have mI := as_methodImplements
  have k27 := at_kind92
  have k25 := at_kind48
  have e27 := at_elem92
  have i25 := at_implements48
  have hgl := hg.lt
  have hg2 : ((w.alloc (.cells #[.pointer (some ⟨tb, 0, none⟩)] 92)).alloc (.cells #[.pointer (some ⟨4, 92, none⟩), .pointer (some ⟨w.heap.size, 0, none⟩), .int .u64 150] 84)).cell? ⟨0, 0, none⟩ = some (.iface 106 (.agg #[.pointer (some ⟨4, 42, none⟩)])) := HandleAt.below hg (below_alloc (below_alloc (Below.refl _ _) _) _)
  have hgb : ((w.alloc (.cells #[.pointer (some ⟨tb, 0, none⟩)] 92)).alloc (.cells #[.pointer (some ⟨4, 92, none⟩), .pointer (some ⟨w.heap.size, 0, none⟩), .int .u64 150] 84)).heap[w.heap.size]? = some (.cells #[.pointer (some ⟨tb, 0, none⟩)] 92 (0, 0)) := blk_alloc (blk_new _ _) _
  have n8 := at_isNil92 ⟨w.heap.size, 0, none⟩ ⟨tb, 0, none⟩ ((w.alloc (.cells #[.pointer (some ⟨tb, 0, none⟩)] 92)).alloc (.cells #[.pointer (some ⟨4, 92, none⟩), .pointer (some ⟨w.heap.size, 0, none⟩), .int .u64 150] 84)) ((blk_cell hgb 0).trans rfl)
  have HC := Aside0.mk (as_codeS e n w.heap.size tb old w0 ((w.alloc (.cells #[.pointer (some ⟨tb, 0, none⟩)] 92)).alloc (.cells #[.pointer (some ⟨4, 92, none⟩), .pointer (some ⟨w.heap.size, 0, none⟩), .int .u64 150] 84)) (below_alloc (below_alloc hB _) _) h0 hgb (blk_alloc (blk_alloc ht _) _))
  obtain ⟨u', x', hu⟩ := wraps_iface n 74 (.pointer (some e))
  rw [hu] at HC ⊢
  clear hu hgb hB ht hg
  go_enter Tryd.func15, Tryd.ntmps15
  go_wp2_with (go_at_call 45; refine HC.out.mono ?_; rintro ev w2 ⟨rfl, ht, hb⟩)
  go_ret
  exact ⟨rfl, ht, hb⟩
set_option maxHeartbeats 4000000 in
theorem codeC (m : Int) (n : Nat) (w : World) (hg : HandleAt w) : Calls Tryd.prog 18 #[wraps n (.iface 48 (.int .i64 m))] w fun ev w' => ev = .returned (.int .i64 m) ∧ Below w.heap.size w w' := by
  have hb0 := below_alloc (Below.refl w.heap.size w) (.cells #[.int .i64 0] 48)
  have HC := Aside0.mk (asC m n w.heap.size (.int .i64 0) w (w.alloc (.cells #[.int .i64 0] 48)) (hg.below hb0) hb0 (Nat.le_refl _) (blk_new _ _))
  obtain ⟨u', x', hu⟩ := wraps_iface n 48 (.int .i64 m)
  rw [hu] at HC ⊢
  clear hu hb0 hg
  go_enter Tryd.func18, Tryd.ntmps18
  go_wp2_with fail
  refine HC.out.mono ?_
  rintro ev w2 ⟨rfl, ht, hb⟩
  have hc := (blk_cell ht 0).trans rfl
  clear ht
  go_wp2
  go_ret
  exact ⟨rfl, hb⟩
set_option maxHeartbeats 4000000 in
theorem codeW (e : Addr) (n : Nat) (w : World) (hg : HandleAt w) : Calls Tryd.prog 18 #[wraps n (.iface 45 (.pointer (some e)))] w fun ev w' => ev = .returned (.int .i64 80) ∧ Below w.heap.size w w' := by
  have hb0 := below_alloc (Below.refl w.heap.size w) (.cells #[.int .i64 0] 48)
  have HC := Aside0.mk (asCW e n w.heap.size (.int .i64 0) w (w.alloc (.cells #[.int .i64 0] 48)) (hg.below hb0) hb0 (Nat.le_refl _) (blk_new _ _))
  obtain ⟨u', x', hu⟩ := wraps_iface n 45 (.pointer (some e))
  rw [hu] at HC ⊢
  clear hu hb0 hg
  go_enter Tryd.func18, Tryd.ntmps18
  go_wp2_with fail
  refine HC.out.mono ?_
  rintro ev w2 ⟨rfl, ht, hb⟩
  have hc := (blk_cell ht 0).trans rfl
  clear ht
  go_wp2
  go_ret
  exact ⟨rfl, hb⟩
set_option maxHeartbeats 4000000 in
theorem codeS (e : Addr) (n : Nat) (w : World) (hg : HandleAt w) : Calls Tryd.prog 18 #[wraps n (.iface 74 (.pointer (some e)))] w fun ev w' => ev = .returned (.int .i64 1) ∧ Below w.heap.size w w' := by
  have hb0 := below_alloc (Below.refl w.heap.size w) (.cells #[.int .i64 0] 48)
  have HC := Aside0.mk (asCS e n w.heap.size (.int .i64 0) w (w.alloc (.cells #[.int .i64 0] 48)) (hg.below hb0) hb0 (Nat.le_refl _) (blk_new _ _))
  obtain ⟨u', x', hu⟩ := wraps_iface n 74 (.pointer (some e))
  rw [hu] at HC ⊢
  clear hu hb0 hg
  go_enter Tryd.func18, Tryd.ntmps18
  go_wp2_with fail
  refine HC.out.mono ?_
  rintro ev w2 ⟨rfl, ht, hb⟩
  have hc := (blk_cell ht 0).trans rfl
  clear ht
  go_wp2
  go_ret
  exact ⟨rfl, hb⟩
theorem code_nil (w : World) : Calls Tryd.prog 18 #[.nilIface] w fun ev w' => ev = .returned (.int .i64 0) ∧ Below w.heap.size w w' := by
  go_enter Tryd.func18, Tryd.ntmps18
  go_wp2
  go_ret
  exact ⟨rfl, below_alloc (Below.refl _ _) _⟩
theorem itoa_0 (w : World) : Calls Tryd.prog 46 #[.int .i64 0] w fun ev w' => ev = .returned (.string ⟨#[48]⟩) ∧ w' = w := by
  go_enter Tryd.func46, Tryd.ntmps46
  go_wp2
  go_ret
  exact ⟨rfl, rfl⟩
end Go.Proofs.YteleaflneejipaaDoor
