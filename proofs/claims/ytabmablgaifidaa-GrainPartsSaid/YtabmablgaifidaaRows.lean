/-
  No cell of these rows narrows 'for every input' (looked for: loops, veiled, ifaces, maps, wideKeys, modest, calm, conditions, laid).
  DERIVED. THE GIVEN ROWS OF THIS SEAT. 7 by the template 'for every input the law returns true; each argument reads behind the call as it read before'; 0 by the template 'total and deterministic' (their statements: YtabmablgaifidaaTotals.lean).
  GIVEN WITH THE SEED: the statements are not yours to turn. If you find one false, say at which input.
  Laid BY PROGRAM, IN A SANDBOX (cutbox-rows.mjs): the forced cells as the released guide's own fill.sh prints them over the translation bedb747f4197dbbe… (all of the seat's roots in one cut). By AI agents, Wed Nov 11 2026. No macro, syntax, notation, axiom, sorry.
-/
import Derived.Test.YtabmablgaifidaaChecked
import GoSem.Claim
import GoSem.ClaimJoined
import GoSem.ClaimMapViews
import Derived.JoinedTies
import Derived.KernelRfl
namespace Go.Proofs.Ytabmablgaifidaa
/- THE CELL 'sum', in the pinned program and in every row, IS THE sha256 OF THE DUMP (.gsa) THAT YtabmablgaifidaaProg.lean LOADS. Nothing in Lean hashes anything: it is a label: what it is worth is what the hold of that sum in a sandbox is worth. -/
noncomputable def Try.pinned : Pinned := { name := "ytabmablgaifidaa", sum := "bedb747f4197dbbeb60c1a2451f354a76f47225caea22d4819ad39a292a1198e", checked := Try.checked }
namespace Rows
def none {H : Type} : Left H := { results := [], args := [] }

/-- 'gristmilllaw07.GrainBuckets': WHATEVER THE INPUT: true; the input reads as it did. -/
def grainBucketsSpec : ChangeSpec := { name := "grainBuckets", fn := fun _ => fun
  | [d1, d2] => { results := [.lit (.bool true)], args := [d1, d2] }
  | _ => none }
def grainBucketsRow : OpenClaim := { program := "ytabmablgaifidaa", sum := "bedb747f4197dbbeb60c1a2451f354a76f47225caea22d4819ad39a292a1198e", func := "gristmill/gristmilllaw07.GrainBuckets", spec := "grainBuckets", unfollowed := true, recurses := true, apart := false }
def GrainBucketsSaid : Prop := grainBucketsRow.holds Try.pinned (OpenSpec.ofChange grainBucketsSpec)

/-- ITS FALSE NEIGHBOUR: 'it returns false'. Refute it at one input. -/
def grainBucketsWrong : ChangeSpec := { name := "grainBuckets", fn := fun _ => fun
  | [d1, d2] => { results := [.lit (.bool false)], args := [d1, d2] }
  | _ => none }
def GrainBucketsWrongFalsely : Prop := grainBucketsRow.holds Try.pinned (OpenSpec.ofChange grainBucketsWrong)

/-- 'gristmilllaw07.GrainUnions': WHATEVER THE INPUT: true; the input reads as it did. -/
def grainUnionsSpec : ChangeSpec := { name := "grainUnions", fn := fun _ => fun
  | [d1, d2] => { results := [.lit (.bool true)], args := [d1, d2] }
  | _ => none }
def grainUnionsRow : OpenClaim := { program := "ytabmablgaifidaa", sum := "bedb747f4197dbbeb60c1a2451f354a76f47225caea22d4819ad39a292a1198e", func := "gristmill/gristmilllaw07.GrainUnions", spec := "grainUnions", unfollowed := true, recurses := true, apart := false }
def GrainUnionsSaid : Prop := grainUnionsRow.holds Try.pinned (OpenSpec.ofChange grainUnionsSpec)

/-- ITS FALSE NEIGHBOUR: 'it returns false'. Refute it at one input. -/
def grainUnionsWrong : ChangeSpec := { name := "grainUnions", fn := fun _ => fun
  | [d1, d2] => { results := [.lit (.bool false)], args := [d1, d2] }
  | _ => none }
def GrainUnionsWrongFalsely : Prop := grainUnionsRow.holds Try.pinned (OpenSpec.ofChange grainUnionsWrong)

/-- 'gristmilllaw07.GrainSplits': WHATEVER THE INPUT: true; the input reads as it did. -/
def grainSplitsSpec : ChangeSpec := { name := "grainSplits", fn := fun _ => fun
  | [d1, d2] => { results := [.lit (.bool true)], args := [d1, d2] }
  | _ => none }
def grainSplitsRow : OpenClaim := { program := "ytabmablgaifidaa", sum := "bedb747f4197dbbeb60c1a2451f354a76f47225caea22d4819ad39a292a1198e", func := "gristmill/gristmilllaw07.GrainSplits", spec := "grainSplits", unfollowed := true, recurses := true, apart := false }
def GrainSplitsSaid : Prop := grainSplitsRow.holds Try.pinned (OpenSpec.ofChange grainSplitsSpec)

/-- ITS FALSE NEIGHBOUR: 'it returns false'. Refute it at one input. -/
def grainSplitsWrong : ChangeSpec := { name := "grainSplits", fn := fun _ => fun
  | [d1, d2] => { results := [.lit (.bool false)], args := [d1, d2] }
  | _ => none }
def GrainSplitsWrongFalsely : Prop := grainSplitsRow.holds Try.pinned (OpenSpec.ofChange grainSplitsWrong)

/-- 'gristmilllaw07.GrainParts': WHATEVER THE INPUT: true; the input reads as it did. -/
def grainPartsSpec : ChangeSpec := { name := "grainParts", fn := fun _ => fun
  | [d1, d2, d3] => { results := [.lit (.bool true)], args := [d1, d2, d3] }
  | _ => none }
def grainPartsRow : OpenClaim := { program := "ytabmablgaifidaa", sum := "bedb747f4197dbbeb60c1a2451f354a76f47225caea22d4819ad39a292a1198e", func := "gristmill/gristmilllaw07.GrainParts", spec := "grainParts", unfollowed := true, recurses := true, apart := false }
def GrainPartsSaid : Prop := grainPartsRow.holds Try.pinned (OpenSpec.ofChange grainPartsSpec)

/-- ITS FALSE NEIGHBOUR: 'it returns false'. Refute it at one input. -/
def grainPartsWrong : ChangeSpec := { name := "grainParts", fn := fun _ => fun
  | [d1, d2, d3] => { results := [.lit (.bool false)], args := [d1, d2, d3] }
  | _ => none }
def GrainPartsWrongFalsely : Prop := grainPartsRow.holds Try.pinned (OpenSpec.ofChange grainPartsWrong)

/-- 'gristmilllaw07.GrainApart': WHATEVER THE INPUT: true; the input reads as it did. -/
def grainApartSpec : ChangeSpec := { name := "grainApart", fn := fun _ => fun
  | [d1, d2, d3] => { results := [.lit (.bool true)], args := [d1, d2, d3] }
  | _ => none }
def grainApartRow : OpenClaim := { program := "ytabmablgaifidaa", sum := "bedb747f4197dbbeb60c1a2451f354a76f47225caea22d4819ad39a292a1198e", func := "gristmill/gristmilllaw07.GrainApart", spec := "grainApart", unfollowed := true, recurses := true, apart := false }
def GrainApartSaid : Prop := grainApartRow.holds Try.pinned (OpenSpec.ofChange grainApartSpec)

/-- ITS FALSE NEIGHBOUR: 'it returns false'. Refute it at one input. -/
def grainApartWrong : ChangeSpec := { name := "grainApart", fn := fun _ => fun
  | [d1, d2, d3] => { results := [.lit (.bool false)], args := [d1, d2, d3] }
  | _ => none }
def GrainApartWrongFalsely : Prop := grainApartRow.holds Try.pinned (OpenSpec.ofChange grainApartWrong)

/-- 'gristmilllaw07.GrainMeets': WHATEVER THE INPUT: true; the input reads as it did. -/
def grainMeetsSpec : ChangeSpec := { name := "grainMeets", fn := fun _ => fun
  | [d1, d2, d3] => { results := [.lit (.bool true)], args := [d1, d2, d3] }
  | _ => none }
def grainMeetsRow : OpenClaim := { program := "ytabmablgaifidaa", sum := "bedb747f4197dbbeb60c1a2451f354a76f47225caea22d4819ad39a292a1198e", func := "gristmill/gristmilllaw07.GrainMeets", spec := "grainMeets", unfollowed := true, recurses := true, apart := false }
def GrainMeetsSaid : Prop := grainMeetsRow.holds Try.pinned (OpenSpec.ofChange grainMeetsSpec)

/-- ITS FALSE NEIGHBOUR: 'it returns false'. Refute it at one input. -/
def grainMeetsWrong : ChangeSpec := { name := "grainMeets", fn := fun _ => fun
  | [d1, d2, d3] => { results := [.lit (.bool false)], args := [d1, d2, d3] }
  | _ => none }
def GrainMeetsWrongFalsely : Prop := grainMeetsRow.holds Try.pinned (OpenSpec.ofChange grainMeetsWrong)

/-- 'gristmilllaw07.GrainHolds': WHATEVER THE INPUT: true; the input reads as it did. -/
def grainHoldsSpec : ChangeSpec := { name := "grainHolds", fn := fun _ => fun
  | [d1, d2, d3] => { results := [.lit (.bool true)], args := [d1, d2, d3] }
  | _ => none }
def grainHoldsRow : OpenClaim := { program := "ytabmablgaifidaa", sum := "bedb747f4197dbbeb60c1a2451f354a76f47225caea22d4819ad39a292a1198e", func := "gristmill/gristmilllaw07.GrainHolds", spec := "grainHolds", unfollowed := true, recurses := true, apart := false }
def GrainHoldsSaid : Prop := grainHoldsRow.holds Try.pinned (OpenSpec.ofChange grainHoldsSpec)

/-- ITS FALSE NEIGHBOUR: 'it returns false'. Refute it at one input. -/
def grainHoldsWrong : ChangeSpec := { name := "grainHolds", fn := fun _ => fun
  | [d1, d2, d3] => { results := [.lit (.bool false)], args := [d1, d2, d3] }
  | _ => none }
def GrainHoldsWrongFalsely : Prop := grainHoldsRow.holds Try.pinned (OpenSpec.ofChange grainHoldsWrong)

/- THE SECOND FORM. 'bulk': how many values and letters a reading holds, each counted each time it is reached (what is shared counts as often as it is met; a slice's spare places count too). A statement '..UptoSaid' is the law's where the arguments, and the package variables that the reading takes, are together of bulk at most 1048576: NARROWER than '..Said'. Prove '..Said' where nothing that the law and all that it calls make is longer than what came in: it says more and counts as full. Else prove '..UptoSaid'. A law counts once. -/
mutual
def uptoBulk {H : Type} : DataW H → Nat
  | .lit (.string bytes) => bytes.length + 1
  | .lit _ => 1
  | .nil => 1
  | .ptr d => uptoBulk d + 1
  | .slice elems spare => uptoBulkAll elems + uptoBulkAll spare + 1
  | .agg parts => uptoBulkAll parts + 1
  | .iface _ d => uptoBulk d + 1
  | .map entries => uptoBulkEntries entries + 1
  | .held _ => 1
def uptoBulkAll {H : Type} : List (DataW H) → Nat
  | [] => 0
  | d :: r => uptoBulk d + uptoBulkAll r
def uptoBulkEntries {H : Type} : List (Lit × DataW H) → Nat
  | [] => 0
  | x :: r => uptoBulkEntry x + uptoBulkEntries r
def uptoBulkEntry {H : Type} : Lit × DataW H → Nat
  | (.string bytes, d) => bytes.length + uptoBulk d + 1
  | (_, d) => uptoBulk d + 1
 end
def uptoSmall : (H : Type) → List (DataW H) → Bool := fun _ ds => decide (uptoBulkAll ds ≤ 1048576)
def OpenSpec.upto (s : _root_.Go.ChangeSpec) : _root_.Go.OpenSpec := { _root_.Go.OpenSpec.ofChange s with cond := some uptoSmall }

/-- 'gristmilllaw07.GrainBuckets', WHERE WHAT IT READS IS OF BULK AT MOST 1048576: true; the input reads as it did. -/
def grainBucketsUptoRow : OpenClaim := { program := "ytabmablgaifidaa", sum := "bedb747f4197dbbeb60c1a2451f354a76f47225caea22d4819ad39a292a1198e", func := "gristmill/gristmilllaw07.GrainBuckets", spec := "grainBuckets", unfollowed := true, recurses := true, apart := false, narrowed := true }
def GrainBucketsUptoSaid : Prop := grainBucketsUptoRow.holds Try.pinned (OpenSpec.upto grainBucketsSpec)

/-- 'gristmilllaw07.GrainUnions', WHERE WHAT IT READS IS OF BULK AT MOST 1048576: true; the input reads as it did. -/
def grainUnionsUptoRow : OpenClaim := { program := "ytabmablgaifidaa", sum := "bedb747f4197dbbeb60c1a2451f354a76f47225caea22d4819ad39a292a1198e", func := "gristmill/gristmilllaw07.GrainUnions", spec := "grainUnions", unfollowed := true, recurses := true, apart := false, narrowed := true }
def GrainUnionsUptoSaid : Prop := grainUnionsUptoRow.holds Try.pinned (OpenSpec.upto grainUnionsSpec)

/-- 'gristmilllaw07.GrainSplits', WHERE WHAT IT READS IS OF BULK AT MOST 1048576: true; the input reads as it did. -/
def grainSplitsUptoRow : OpenClaim := { program := "ytabmablgaifidaa", sum := "bedb747f4197dbbeb60c1a2451f354a76f47225caea22d4819ad39a292a1198e", func := "gristmill/gristmilllaw07.GrainSplits", spec := "grainSplits", unfollowed := true, recurses := true, apart := false, narrowed := true }
def GrainSplitsUptoSaid : Prop := grainSplitsUptoRow.holds Try.pinned (OpenSpec.upto grainSplitsSpec)

/-- 'gristmilllaw07.GrainParts', WHERE WHAT IT READS IS OF BULK AT MOST 1048576: true; the input reads as it did. -/
def grainPartsUptoRow : OpenClaim := { program := "ytabmablgaifidaa", sum := "bedb747f4197dbbeb60c1a2451f354a76f47225caea22d4819ad39a292a1198e", func := "gristmill/gristmilllaw07.GrainParts", spec := "grainParts", unfollowed := true, recurses := true, apart := false, narrowed := true }
def GrainPartsUptoSaid : Prop := grainPartsUptoRow.holds Try.pinned (OpenSpec.upto grainPartsSpec)

/-- 'gristmilllaw07.GrainApart', WHERE WHAT IT READS IS OF BULK AT MOST 1048576: true; the input reads as it did. -/
def grainApartUptoRow : OpenClaim := { program := "ytabmablgaifidaa", sum := "bedb747f4197dbbeb60c1a2451f354a76f47225caea22d4819ad39a292a1198e", func := "gristmill/gristmilllaw07.GrainApart", spec := "grainApart", unfollowed := true, recurses := true, apart := false, narrowed := true }
def GrainApartUptoSaid : Prop := grainApartUptoRow.holds Try.pinned (OpenSpec.upto grainApartSpec)

/-- 'gristmilllaw07.GrainMeets', WHERE WHAT IT READS IS OF BULK AT MOST 1048576: true; the input reads as it did. -/
def grainMeetsUptoRow : OpenClaim := { program := "ytabmablgaifidaa", sum := "bedb747f4197dbbeb60c1a2451f354a76f47225caea22d4819ad39a292a1198e", func := "gristmill/gristmilllaw07.GrainMeets", spec := "grainMeets", unfollowed := true, recurses := true, apart := false, narrowed := true }
def GrainMeetsUptoSaid : Prop := grainMeetsUptoRow.holds Try.pinned (OpenSpec.upto grainMeetsSpec)

/-- 'gristmilllaw07.GrainHolds', WHERE WHAT IT READS IS OF BULK AT MOST 1048576: true; the input reads as it did. -/
def grainHoldsUptoRow : OpenClaim := { program := "ytabmablgaifidaa", sum := "bedb747f4197dbbeb60c1a2451f354a76f47225caea22d4819ad39a292a1198e", func := "gristmill/gristmilllaw07.GrainHolds", spec := "grainHolds", unfollowed := true, recurses := true, apart := false, narrowed := true }
def GrainHoldsUptoSaid : Prop := grainHoldsUptoRow.holds Try.pinned (OpenSpec.upto grainHoldsSpec)

end Rows
end Go.Proofs.Ytabmablgaifidaa
