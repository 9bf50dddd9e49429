/- The statement QueryFitsCardSaid: the law QueryFits returns true at every input, where the listed variable holds what the program's text lays; its argument reads behind the call as it read before. -/
import Derived.Test.YteleaflneejipaaDoorRows
import Derived.Test.YteleaflneejipaaDoorCards
import Derived.Test.YteleaflneejipaaDoorTie
import Derived.Test.YteleaflneejipaaDoorR0
import Derived.Test.YteleaflneejipaaDoorA11
import Derived.WalkKit
import Derived.ProofKit
import Derived.OpenShut
import Derived.ShutString
import Derived.ChangeOld
import Derived.Below
import Derived.SizedLaws
import Derived.SevenTiedAt
namespace Go.Proofs.YteleaflneejipaaDoor.K
open Go.RowKit
theorem cells4 : Tryd.prog.cellsOf 4 = 1 := by kernel_rfl
theorem cells29 : Tryd.prog.cellsOf 29 = 1 := by kernel_rfl
theorem bytes4 : Tryd.prog.bytesOf 4 = 1 := by kernel_rfl
theorem kBools_opens : ∀ N, (Kd.slice 1 Kd.bool).Opens Tryd.prog 29 N := Kd.opens_slice_all Tryd.underlying29 cells29 bytes4 (by decide) (Kd.opens_bool Tryd.underlying4 cells4)
theorem kBools_open {w : World} {F : Nat → Prop} {xs : List Bool} {A : Option Addr} {n c : Nat} (h : (Kd.slice 1 Kd.bool).K w F xs [.slice A n c]) :
    n = xs.length ∧ xs.length ≤ c ∧ BoolsAt w A xs := by
  obtain ⟨A', c', he, hl, hb, hr⟩ := h
  injection he with he
  injection he with e1 e2 e3
  subst e1 e2 e3
  refine ⟨rfl, hl, fun i hi => ?_⟩
  obtain ⟨ad, ha, _, hlt, hc⟩ := hr.2.2 (by omega)
  obtain ⟨c, hk, hcc⟩ := hc i _ (List.getElem?_eq_getElem hi)
  obtain ⟨rfl, _⟩ := hk
  refine ⟨ad, ha, hlt, ?_⟩
  have := hcc 0 _ rfl
  have e : i * Kd.bool.sz + 0 = i := Nat.mul_one i
  rw [e] at this
  exact this
end Go.Proofs.YteleaflneejipaaDoor.K
namespace Go.Proofs.YteleaflneejipaaDoor.queryFits
open Go.ChangeShapes Go.WideShapes Go.ChangeAt Go.RowKit K
open Go.ChangeMaps (open_string shut_string)
set_option linter.unusedVariables false
set_option maxRecDepth 100000 in
theorem lifted (os : Os) (started : os.Started) (H : Type) (enc : TypeId × Value → H) :
    ReturnsInHanded {} Tryd.checked os 4 .any (fun w args => (Rows.queryFitsSpec.pre enc Tryd.prog Tryd.f4 Rows.queryFitsRow.domain false w args ∧ laidMetH Tryd.prog laidOne w) ∧ sizedMet enc Tryd.prog Tryd.f4 (OpenSpec.ofChange Rows.queryFitsSpec) false w args)
      (Rows.queryFitsSpec.post enc Tryd.prog Tryd.f4 false true false false) := by
  refine returnsInHanded_of_change_and (C := Tryd.checked) (X := fun w _ => laidMetH Tryd.prog laidOne w) (fun _ _ _ hh h => h.of_heap hh) own started (by kernel_rfl) Tryd.func4
    (ChangeSpec.witness_at (enc := enc) (C := Tryd.checked) (os := os) (X := fun w _ => laidMetH Tryd.prog laidOne w) false (laidWorld os) #[.slice none 0 0] 8 rfl (by kernel_rfl) (by kernel_rfl) (by kernel_rfl) (by kernel_rfl) (by kernel_rfl) (laidWorld_met os _)) ?_
  intro W base args ds gs before hval0 hW hcnd hsz0 hL _
  have hsz : (DataW.weightsEach Tryd.prog (Tryd.f4.params.toList ++ Rows.queryFitsSpec.plain.varTypes Tryd.prog) (ds ++ gs)).all (· ≤ reachBytes) = true := hsz0
  have hval : ∀ (j : Nat) t v, Tryd.f4.params[j]? = some t → args[j]? = some v → Value.okWide Tryd.prog W .any base t v := hval0
  have hW' := hW
  obtain ⟨p, q, hA0, hV, rfl, hfz, hnd⟩ := hW
  have hA : DataW.TrodAll enc Tryd.prog W 0 (fun _ => true) true Tryd.f4.params.toList args.toList ds p := hA0
  rw [Tryd.params4] at hA hval hsz
  obtain ⟨v0, vs0, d0, ds0, p0, q0, hargs, rfl, rfl, h0, r0⟩ := trodAll_cons hA
  obtain ⟨rfl, rfl, rfl⟩ := trodAll_nil r0
  obtain rfl : args = #[v0] := by cases args; simp_all
  obtain ⟨rfl, rfl⟩ := trodVars_none hV
  have k0 := h0
  have lt0 : ∀ x ∈ p0, x.block < W.heap.size := by obtain ⟨m, hm⟩ := k0; exact DataW.trod_lt m _ _ _ hm
  obtain ⟨a0, o0⟩ := Kd.opened kBools_opens h0 (Kd.all_weightsEach hsz 0 29 _ rfl rfl)
  obtain ⟨A0, n0, c0, rfl⟩ := okWide_slice Tryd.underlying29 (hval 0 29 v0 rfl rfl)
  change (Kd.slice 1 Kd.bool).K W Any a0 [.slice A0 n0 c0] at o0
  obtain ⟨rfl, hc, hC⟩ := kBools_open o0
  clear hA0 hval0 hsz0 hsz
  refine (law_fits W (handle_of_laid hL) a0 A0 c0 hC hc).mono fun e W' ⟨he, bel⟩ => ?_
  subst he
  exact ⟨_, rfl, _, _, _, [], _, [], hW', trodAll_mk1 (shut_bool Tryd.underlying4 _), (trodAll_cons_mk (Below.trod laidOut (by kernel_rfl) (of_decide_eq_true (by kernel_rfl)) k0 bel lt0) trodAll_mk0), rfl, bel.frame _, fun h => by cases h⟩
theorem over : Rows.queryFitsRow.holds Tryd.pinned (OpenSpec.ofChange Rows.queryFitsSpec) :=
  OpenClaim.holds_of_wide 4 Tryd.f4 rfl rfl rfl rfl rfl rfl rfl ⟨rfl, rfl, rfl, rfl, rfl⟩ rfl rfl rfl rfl rfl (by kernel_rfl) Tryd.func4 (by kernel_rfl)
    (of_decide_eq_true (by kernel_rfl)) (by unfold Func.isWrapper; first | (rw [if_pos (by decide +kernel)]; kernel_rfl) | (rw [if_neg (by decide +kernel)]; exact ⟨rfl, rfl⟩))
    (fun os started H enc _ => lifted os started H enc)
end Go.Proofs.YteleaflneejipaaDoor.queryFits
namespace Go.Proofs.YteleaflneejipaaDoor
theorem queryFits_holds : Rows.QueryFitsSaid := queryFits.over
theorem queryFitsCard_holds : Rows.QueryFitsCardSaid :=
  Claim7.holds_tied_plain_at .later [] [.handle] true (true, "a0fa34f4406ebcf6b710642856f1d4d39dd2c4ab644a155ee77bf197af9b77f1") true
    queryFits_holds (fun _ h => by cases h) (by kernel_rfl) (fun _ h => by cases h) queryFits_row_tie rfl ⟨rfl, rfl⟩ (by kernel_rfl) rfl
    (fun f fn hf hfn => by
      obtain rfl : f = 4 := Option.some.inj ((show Tryd.prog.funcNamed "gristmill/gristmilllaw08.QueryFits" = some 4 by kernel_rfl).symm.trans hf) |>.symm
      obtain rfl : fn = Tryd.f4 := (Option.some.inj (Tryd.func4.symm.trans hfn)).symm
      exact ⟨by kernel_rfl, fun j t ht => by
        rw [Tryd.params4] at ht
        have h3 : t = 29 := by
          rcases j with _ | j
          · simpa using ht.symm
          · simp at ht
        subst h3
        exact (show Tryd.prog.wantsStandIn 29 = false by kernel_rfl)⟩)
    (by kernel_rfl)
end Go.Proofs.YteleaflneejipaaDoor
