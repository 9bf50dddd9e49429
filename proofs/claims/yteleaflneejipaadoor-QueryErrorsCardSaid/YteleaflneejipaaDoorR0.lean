/- The condition 'laid' of this seat's rows: the variable's cell; a world that meets it. After the kit's worked example ToyasProofs. What is read at an argument of ints. -/
import Derived.Test.YteleaflneejipaaDoorRows
import Derived.Test.YteleaflneejipaaDoorOpens
import Derived.Test.YteleaflneejipaaDoorA7
import Derived.ChangeSame
import Derived.ChangeVars
import Derived.JoinedOf
import Derived.RowKit
import Derived.RowKitTokens
import Derived.LaidLaws
import Derived.LaidHandle
import Derived.Stop.Joined
import Derived.OpenShut
namespace Go.Proofs.YteleaflneejipaaDoor
open Go.ChangeShapes Go.WideShapes Go.RowKit
set_option linter.unusedVariables false
def laidOne : List (String × DataW Unit) := [("errors.errorType", Rows.laid_errors_errorType)]
theorem own : ownKnob Tryd.prog.godebug = none := by kernel_rfl
theorem laidOut : laidOutB Tryd.prog = true := by kernel_rfl
theorem et : Tryd.prog.globalNamed "errors.errorType" = some 0 := by kernel_rfl
theorem rt : (Tryd.prog.cutTypes.find? (·.1 == "internal/reflectlite.rtype")).map (·.2) = some 106 := by kernel_rfl
theorem oneRow : ((List.range 172).filter fun t => Tryd.prog.rowNamed t [101, 114, 114, 111, 114]) = [42] := by kernel_rfl
theorem typesSize : Tryd.prog.types.size = 172 := by kernel_rfl
theorem handle_of_laid {W : World} (h : laidMetH Tryd.prog laidOne W) : HandleAt W := by
  have h' : laidMet Tryd.prog [] W ∧ handlesMet Tryd.prog laidOne W := h
  obtain ⟨name, u, ty, e1, e2, e3, e4, e5⟩ := h'.2 _ (List.mem_singleton.2 rfl)
  have en : name = [101, 114, 114, 111, 114] := (Option.some.inj e1).symm
  subst en
  obtain rfl := Option.some.inj (rt.symm.trans e2)
  have hm : ty ∈ (List.range 172).filter fun t => Tryd.prog.rowNamed t [101, 114, 114, 111, 114] := List.mem_filter.2 ⟨List.mem_range.2 (by rw [← typesSize]; exact e3), e4⟩
  rw [oneRow] at hm
  obtain rfl := List.mem_singleton.1 hm
  have hh : typeHandle Tryd.prog 42 = .pointer (some ⟨4, 42, none⟩) := by kernel_rfl
  rw [hh] at e5
  unfold HandleAt
  simpa using World.var?_cell et e5 0
noncomputable def laidWorld (os : Os) : World :=
  let w0 := World.holding Tryd.prog os ⟨#[], #[], []⟩
  { w0 with heap := w0.heap.modify 0 fun
      | .cells _ t frozen => .cells #[.iface 106 (.agg #[.pointer (some ⟨4, 42, none⟩)])] t frozen
      | o => o }
theorem laidWorld_met (os : Os) (args : Array Value) : laidMetH Tryd.prog laidOne ((laidWorld os).forCall (fun _ _ => 0) ⟨#[], args, []⟩).memory :=
  laidMetH_of_parts (laidMet_nil _ _) (by kernel_rfl)
namespace K
theorem cells3 : Tryd.prog.cellsOf 3 = 1 := by kernel_rfl
theorem cells22 : Tryd.prog.cellsOf 22 = 1 := by kernel_rfl
theorem bytes3 : Tryd.prog.bytesOf 3 = 8 := by kernel_rfl
theorem kInts_opens : ∀ N, (Kd.slice 8 (Kd.int .i64)).Opens Tryd.prog 22 N := Kd.opens_slice_all Tryd.underlying22 cells22 bytes3 (by decide) (Kd.opens_int Tryd.underlying3 cells3)
theorem kInts_open {w : World} {F : Nat → Prop} {xs : List Int} {A : Option Addr} {n c : Nat} (h : (Kd.slice 8 (Kd.int .i64)).K w F xs [.slice A n c]) :
    n = xs.length ∧ xs.length ≤ c ∧ YteleaflneejipaaDoorW.PrintWords.Kd.C (YteleaflneejipaaDoorW.PrintWords.Kd.int .i64) w A xs.length xs := by
  obtain ⟨A', c', he, hl, hb, hr⟩ := h
  injection he with he
  injection he with e1 e2 e3
  subst e1 e2 e3
  refine ⟨rfl, hl, rfl, hr.2.1, fun hn => ?_⟩
  obtain ⟨ad, ha, _, _, hc⟩ := hr.2.2 hn
  refine ⟨ad, ha, fun j p hj => ?_⟩
  obtain ⟨c, hk, hcc⟩ := hc j p hj
  obtain ⟨rfl, _⟩ := hk
  exact ⟨_, rfl, rfl, hcc⟩
end K
end Go.Proofs.YteleaflneejipaaDoor
