/- The statement QueryErrorsSaid: the law QueryErrors returns true at every input, and its arguments read behind the call as they read before. No condition. -/
import Derived.Test.YteleaflneejipaaDoorRows
import Derived.Test.YteleaflneejipaaDoorR0
import Derived.Test.YteleaflneejipaaDoorE5
import Derived.WalkKit
import Derived.ProofKit
import Derived.OpenShut
import Derived.ShutString
import Derived.ChangeOld
import Derived.Below
import Derived.SizedLaws
import Derived.LaidSub
import Derived.SevenTiedAt
import Derived.Test.YteleaflneejipaaDoorCards
import Derived.Test.YteleaflneejipaaDoorTie
namespace Go.Proofs.YteleaflneejipaaDoor.queryErrors
open Go.ChangeShapes Go.WideShapes Go.ChangeAt Go.RowKit K
open Go.ChangeMaps (open_string shut_string)
set_option linter.unusedVariables false
theorem Tryd.cells3 : Tryd.prog.cellsOf 3 = 1 := by kernel_rfl
theorem Tryd.cells9 : Tryd.prog.cellsOf 9 = 1 := by kernel_rfl
def laidAll : List (String × DataW Unit) := [("math/bits.deBruijn32tab", Rows.laid_math_bits_deBruijn32tab), ("math/bits.deBruijn64tab", Rows.laid_math_bits_deBruijn64tab), ("internal/strconv.uint64pow10", Rows.laid_internal_strconv_uint64pow10), ("errors.errorType", Rows.laid_errors_errorType)]
def cellsIn : DataW Unit → Array Value
  | .agg parts => (parts.map fun | .lit l => l.value | _ => undef).toArray
  | _ => #[]
noncomputable def worldAll (os : Os) : World :=
  let w0 := World.holding Tryd.prog os ⟨#[], #[], []⟩
  let put (cs : Array Value) : Obj → Obj := fun
    | .cells _ t frozen => .cells cs t frozen
    | o => o
  { w0 with heap := (((w0.heap.modify 0 (put #[.iface 106 (.agg #[.pointer (some ⟨4, 42, none⟩)])])).modify 1 (put (cellsIn Rows.laid_internal_strconv_uint64pow10))).modify 2 (put (cellsIn Rows.laid_math_bits_deBruijn32tab))).modify 3 (put (cellsIn Rows.laid_math_bits_deBruijn64tab)) }
theorem worldAll_met (os : Os) (args : Array Value) : laidMetH Tryd.prog laidAll ((worldAll os).forCall (fun _ _ => 0) ⟨#[], args, []⟩).memory :=
  laidMetH_of_parts (laidMet_of_run' 1000 (by kernel_rfl) (by kernel_rfl)) (by kernel_rfl)
theorem handle_of_all {W : World} (h : laidMetH Tryd.prog laidAll W) : HandleAt W := handle_of_laid (laidMetH.filter (l := laidAll) (fun x => x.1 == "errors.errorType") h)
set_option maxRecDepth 100000 in
theorem lifted (os : Os) (started : os.Started) (H : Type) (enc : TypeId × Value → H) :
    ReturnsInHanded {} Tryd.checked os 5 .any (fun w args => (Rows.queryErrorsSpec.pre enc Tryd.prog Tryd.f5 Rows.queryErrorsRow.domain false w args ∧ laidMetH Tryd.prog laidAll w) ∧ sizedMet enc Tryd.prog Tryd.f5 (OpenSpec.ofChange Rows.queryErrorsSpec) false w args) (Rows.queryErrorsSpec.post enc Tryd.prog Tryd.f5 false true false false) := by
  refine returnsInHanded_of_change_and (C := Tryd.checked) (X := fun w _ => laidMetH Tryd.prog laidAll w) (fun _ _ _ hh h => h.of_heap hh) own started (by kernel_rfl) Tryd.func5
    (ChangeSpec.witness_at (enc := enc) (C := Tryd.checked) (os := os) (X := fun w _ => laidMetH Tryd.prog laidAll w) false (worldAll os) #[.string ⟨#[]⟩, .int .i64 0, .int .i64 0, .int .i64 0] 8 rfl (by kernel_rfl) (by kernel_rfl) (by kernel_rfl) (by kernel_rfl) (by kernel_rfl) (worldAll_met os _)) ?_
  intro W base args ds gs before hval0 hW hcnd hsz0 hL _
  have hsz : (DataW.weightsEach Tryd.prog (Tryd.f5.params.toList ++ Rows.queryErrorsSpec.plain.varTypes Tryd.prog) (ds ++ gs)).all (· ≤ reachBytes) = true := hsz0
  have hval : ∀ (j : Nat) t v, Tryd.f5.params[j]? = some t → args[j]? = some v → Value.okWide Tryd.prog W .any base t v := hval0
  have hW' := hW
  obtain ⟨p, q, hA0, hV, rfl, hfz, hnd⟩ := hW
  have hA : DataW.TrodAll enc Tryd.prog W 0 (fun _ => true) true Tryd.f5.params.toList args.toList ds p := hA0
  rw [Tryd.params5] at hA hval hsz
  obtain ⟨v0, vs0, d0, ds0, p0, q0, hargs, rfl, rfl, h0, r0⟩ := trodAll_cons hA
  obtain ⟨v1, vs1, d1, ds1, p1, q1, rfl, rfl, rfl, h1, r1⟩ := trodAll_cons r0
  obtain ⟨v2, vs2, d2, ds2, p2, q2, rfl, rfl, rfl, h2, r2⟩ := trodAll_cons r1
  obtain ⟨v3, vs3, d3, ds3, p3, q3, rfl, rfl, rfl, h3, r3⟩ := trodAll_cons r2
  obtain ⟨rfl, rfl, rfl⟩ := trodAll_nil r3
  obtain rfl : args = #[v0, v1, v2, v3] := by cases args; simp_all
  obtain ⟨rfl, rfl⟩ := trodVars_none hV
  have k0 := h0
  have lt0 : ∀ x ∈ p0, x.block < W.heap.size := by obtain ⟨m, hm⟩ := k0; exact DataW.trod_lt m _ _ _ hm
  obtain ⟨a0, o0⟩ := Kd.opened (Kd.opens_string Tryd.underlying9 Tryd.cells9) h0 (Kd.all_weightsEach hsz 0 9 _ rfl rfl)
  obtain ⟨m0, rfl⟩ := okWide_string Tryd.underlying9 (hval 0 9 v0 rfl rfl)
  obtain ⟨e0, u0⟩ := o0
  obtain rfl : m0 = a0 := by simpa [Value.cells] using e0
  have k1 := h1
  have lt1 : ∀ x ∈ p1, x.block < W.heap.size := by obtain ⟨m, hm⟩ := k1; exact DataW.trod_lt m _ _ _ hm
  obtain ⟨a1, o1⟩ := Kd.opened (Kd.opens_int Tryd.underlying3 Tryd.cells3) h1 (Kd.all_weightsEach hsz 1 3 _ rfl rfl)
  obtain ⟨m1, rfl⟩ := okWide_int Tryd.underlying3 (hval 1 3 v1 rfl rfl)
  obtain ⟨e1, u1⟩ := o1
  obtain rfl : m1 = a1 := by simpa [Value.cells] using e1
  have k2 := h2
  have lt2 : ∀ x ∈ p2, x.block < W.heap.size := by obtain ⟨m, hm⟩ := k2; exact DataW.trod_lt m _ _ _ hm
  obtain ⟨a2, o2⟩ := Kd.opened (Kd.opens_int Tryd.underlying3 Tryd.cells3) h2 (Kd.all_weightsEach hsz 2 3 _ rfl rfl)
  obtain ⟨m2, rfl⟩ := okWide_int Tryd.underlying3 (hval 2 3 v2 rfl rfl)
  obtain ⟨e2, u2⟩ := o2
  obtain rfl : m2 = a2 := by simpa [Value.cells] using e2
  have k3 := h3
  have lt3 : ∀ x ∈ p3, x.block < W.heap.size := by obtain ⟨m, hm⟩ := k3; exact DataW.trod_lt m _ _ _ hm
  obtain ⟨a3, o3⟩ := Kd.opened (Kd.opens_int Tryd.underlying3 Tryd.cells3) h3 (Kd.all_weightsEach hsz 3 3 _ rfl rfl)
  obtain ⟨m3, rfl⟩ := okWide_int Tryd.underlying3 (hval 3 3 v3 rfl rfl)
  obtain ⟨e3, u3⟩ := o3
  obtain rfl : m3 = a3 := by simpa [Value.cells] using e3
  clear hA0 hval0 hsz0 hsz
  refine (law_errors W (handle_of_all hL) m0 m1 m2 m3 (Go.bounds_i64 u2)).mono fun e W' ⟨he, bel⟩ => ?_
  subst he
  exact ⟨_, rfl, _, _, _, [], _, [], hW', trodAll_mk1 (shut_bool Tryd.underlying4 _), (trodAll_cons_mk (Below.trod laidOut (by kernel_rfl) (of_decide_eq_true (by kernel_rfl)) k0 bel lt0) (trodAll_cons_mk (Below.trod laidOut (by kernel_rfl) (of_decide_eq_true (by kernel_rfl)) k1 bel lt1) (trodAll_cons_mk (Below.trod laidOut (by kernel_rfl) (of_decide_eq_true (by kernel_rfl)) k2 bel lt2) (trodAll_cons_mk (Below.trod laidOut (by kernel_rfl) (of_decide_eq_true (by kernel_rfl)) k3 bel lt3) trodAll_mk0)))), rfl, bel.frame _, fun h => by cases h⟩
theorem over : Rows.queryErrorsRow.holds Tryd.pinned (OpenSpec.ofChange Rows.queryErrorsSpec) :=
  OpenClaim.holds_of_wide 5 Tryd.f5 rfl rfl rfl rfl rfl rfl rfl ⟨rfl, rfl, rfl, rfl, rfl⟩ rfl rfl rfl rfl rfl (by kernel_rfl) Tryd.func5 (by kernel_rfl)
    (of_decide_eq_true (by kernel_rfl)) (by unfold Func.isWrapper; first | (rw [if_pos (by decide +kernel)]; kernel_rfl) | (rw [if_neg (by decide +kernel)]; exact ⟨rfl, rfl⟩))
    (fun os started H enc _ => lifted os started H enc)
end Go.Proofs.YteleaflneejipaaDoor.queryErrors
namespace Go.Proofs.YteleaflneejipaaDoor
theorem queryErrors_holds : Rows.QueryErrorsSaid := queryErrors.over
theorem queryErrorsCard_holds : Rows.QueryErrorsCardSaid :=
  Claim7.holds_tied_plain_at .later [] [.data, .data, .data, .handle] true (true, "a0fa34f4406ebcf6b710642856f1d4d39dd2c4ab644a155ee77bf197af9b77f1") true
    queryErrors_holds (fun _ h => by cases h) (by kernel_rfl) (fun _ h => by cases h) queryErrors_row_tie rfl ⟨rfl, rfl⟩ (by kernel_rfl) rfl
    (fun f fn hf hfn => by
      obtain rfl : f = 5 := Option.some.inj ((show Tryd.prog.funcNamed "gristmill/gristmilllaw08.QueryErrors" = some 5 by kernel_rfl).symm.trans hf) |>.symm
      obtain rfl : fn = Tryd.f5 := (Option.some.inj (Tryd.func5.symm.trans hfn)).symm
      exact ⟨by kernel_rfl, fun j t ht => by
        rw [Tryd.params5] at ht
        have h3 : t = 9 ∨ t = 3 := by
          rcases j with _ | _ | _ | _ | j
          · exact .inl (by simpa using ht.symm)
          · exact .inr (by simpa using ht.symm)
          · exact .inr (by simpa using ht.symm)
          · exact .inr (by simpa using ht.symm)
          · simp at ht
        rcases h3 with rfl | rfl
        · exact (show Tryd.prog.wantsStandIn 9 = false by kernel_rfl)
        · exact (show Tryd.prog.wantsStandIn 3 = false by kernel_rfl)⟩)
    (by kernel_rfl)
end Go.Proofs.YteleaflneejipaaDoor
