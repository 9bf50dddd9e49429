/- Calls whose answer is known: the laws' first call, Empty and Covers where they are so. Each where its function says some. -/
import Derived.Test.YtabmablgaifidaaPGrainx0
import Derived.Test.YtabmablgaifidaaPGrainx2
import Derived.Test.YtabmablgaifidaaPGrainx7
import Derived.Test.YtabmablgaifidaaV3
namespace Go.Proofs.Ytabmablgaifidaa.PGrain
open Go.RowKit Go.Proofs.YtabmablgaifidaaW.PrintWords Go.Proofs.YtabmablgaifidaaW.PrintLast Go.Proofs.YtabmablgaifidaaW.PrintMore
attribute [local go_sem] max2_int min2_int max_two min_two max_three min_three max_four min_four   -- for this text's walks alone
set_option linter.unusedVariables false
set_option linter.unusedSimpArgs false

/-! ### awakeT: function 10 -/
-- WANTS Derived.Test.YtabmablgaifidaaV3
def awakeT.f : Option Bool := some true
theorem awakeT.const {t : Bool} (h : awakeT.f = some t) : t = true := by
  injection h with h
  exact h.symm
theorem awakeT.calls (r : Bool) (w : World) (h : awakeT.f = some r) : Calls Try.prog 10 #[] w fun e w' => e = .returned (.bool r) ∧ Below w.heap.size w w' := by
  obtain rfl := awakeT.const h
  exact awake_at w

/-! ### grain_Bucket: function 11 -/
-- (printed before)

/-! ### grain_Split: function 17 -/
-- (printed before)

/-! ### grain_Holds: function 19 -/
-- (printed before)

/-! ### emptyN: function 20 -/
def emptyN.f (a0_0 : Int) (a0_1 : Int) : Option Bool := if a0_0 < a0_1 then some false else none
theorem emptyN.const {a b : Int} {t : Bool} (h : emptyN.f a b = some t) : t = false := by
  unfold emptyN.f at h
  split at h
  · injection h with h
    exact h.symm
  · cases h
theorem emptyN.calls (a0_0 : Int) (a0_1 : Int) (r : Bool) (w : World) (h : emptyN.f a0_0 a0_1 = some r) : Calls Try.prog 20 #[.agg #[.int .i64 a0_0, .int .i64 a0_1]] w fun e w' => e = .returned (.bool r) ∧ Below w.heap.size w w' := by
  obtain rfl := emptyN.const h
  refine grain_Empty.calls a0_0 a0_1 false w ?_
  unfold emptyN.f at h
  split at h
  · unfold grain_Empty.f
    congr 1
    simp
    omega
  · cases h

/-! ### coversY: function 21 -/
def coversY.f (a0_0 : Int) (a0_1 : Int) (a1_0 : Int) (a1_1 : Int) : Option Bool := if coversS ⟨a0_0, a0_1⟩ ⟨a1_0, a1_1⟩ = true then some true else none
theorem coversY.const {a b c d : Int} {t : Bool} (h : coversY.f a b c d = some t) : t = true := by
  unfold coversY.f at h
  split at h
  · injection h with h
    exact h.symm
  · cases h
theorem coversY.calls (a0_0 : Int) (a0_1 : Int) (a1_0 : Int) (a1_1 : Int) (r : Bool) (w : World) (h : coversY.f a0_0 a0_1 a1_0 a1_1 = some r) : Calls Try.prog 21 #[.agg #[.int .i64 a0_0, .int .i64 a0_1], .agg #[.int .i64 a1_0, .int .i64 a1_1]] w fun e w' => e = .returned (.bool r) ∧ Below w.heap.size w w' := by
  obtain rfl := coversY.const h
  refine grain_Covers.calls a0_0 a0_1 a1_0 a1_1 true w ?_
  unfold coversY.f at h
  split at h
  · have := covers_is ⟨a0_0, a0_1⟩ ⟨a1_0, a1_1⟩
    rw [this]
    congr 1
  · cases h

end Go.Proofs.Ytabmablgaifidaa.PGrain
