/-
  NARROWER THAN 'FOR EVERY INPUT', by the rows' own cells (each row's printed sentence says how): FilterHolds: loops · FilterNots: loops · FilterLaws: loops · FilterSame: loops.
  DERIVED. THE GIVEN ROWS OF THIS SEAT. 4 by the template 'for every input the law returns true; each argument reads behind the call as it read before'; 0 by the template 'total and deterministic' (their statements: YtddjbhphhhdnfaaTotals.lean).
  GIVEN WITH THE SEED: the statements are not yours to turn. If you find one false, say at which input.
  Laid BY PROGRAM, IN A SANDBOX (cutbox-rows.mjs): the forced cells as the released guide's own fill.sh prints them over the translation 7ad98db7c936e07e… (all of the seat's roots in one cut). By AI agents, Wed Nov 11 2026. No macro, syntax, notation, axiom, sorry.
-/
import Derived.Test.YtddjbhphhhdnfaaChecked
import GoSem.Claim
import GoSem.ClaimJoined
import GoSem.ClaimMapViews
import Derived.JoinedTies
import Derived.KernelRfl
namespace Go.Proofs.Ytddjbhphhhdnfaa
/- THE CELL 'sum', in the pinned program and in every row, IS THE sha256 OF THE DUMP (.gsa) THAT YtddjbhphhhdnfaaProg.lean LOADS. Nothing in Lean hashes anything: it is a label: what it is worth is what the hold of that sum in a sandbox is worth. -/
noncomputable def Try.pinned : Pinned := { name := "ytddjbhphhhdnfaa", sum := "7ad98db7c936e07ebdd834463b5fb9adc2dae3b72356d7341e9f5b375f87a066", checked := Try.checked }
namespace Rows
def none {H : Type} : Left H := { results := [], args := [] }

/-- 'gristmilllaw05.FilterHolds': WHATEVER THE INPUT: true; the input reads as it did. -/
def filterHoldsSpec : ChangeSpec := { name := "filterHolds", fn := fun _ => fun
  | [d1, d2] => { results := [.lit (.bool true)], args := [d1, d2] }
  | _ => none }
def filterHoldsRow : OpenClaim := { program := "ytddjbhphhhdnfaa", sum := "7ad98db7c936e07ebdd834463b5fb9adc2dae3b72356d7341e9f5b375f87a066", func := "gristmill/gristmilllaw05.FilterHolds", spec := "filterHolds", unfollowed := true, recurses := true, loops := true, apart := false }
def FilterHoldsSaid : Prop := filterHoldsRow.holds Try.pinned (OpenSpec.ofChange filterHoldsSpec)

/-- ITS FALSE NEIGHBOUR: 'it returns false'. Refute it at one input. -/
def filterHoldsWrong : ChangeSpec := { name := "filterHolds", fn := fun _ => fun
  | [d1, d2] => { results := [.lit (.bool false)], args := [d1, d2] }
  | _ => none }
def FilterHoldsWrongFalsely : Prop := filterHoldsRow.holds Try.pinned (OpenSpec.ofChange filterHoldsWrong)

/-- 'gristmilllaw05.FilterNots': WHATEVER THE INPUT: true; the input reads as it did. -/
def filterNotsSpec : ChangeSpec := { name := "filterNots", fn := fun _ => fun
  | [d1, d2] => { results := [.lit (.bool true)], args := [d1, d2] }
  | _ => none }
def filterNotsRow : OpenClaim := { program := "ytddjbhphhhdnfaa", sum := "7ad98db7c936e07ebdd834463b5fb9adc2dae3b72356d7341e9f5b375f87a066", func := "gristmill/gristmilllaw05.FilterNots", spec := "filterNots", unfollowed := true, recurses := true, loops := true, apart := false }
def FilterNotsSaid : Prop := filterNotsRow.holds Try.pinned (OpenSpec.ofChange filterNotsSpec)

/-- ITS FALSE NEIGHBOUR: 'it returns false'. Refute it at one input. -/
def filterNotsWrong : ChangeSpec := { name := "filterNots", fn := fun _ => fun
  | [d1, d2] => { results := [.lit (.bool false)], args := [d1, d2] }
  | _ => none }
def FilterNotsWrongFalsely : Prop := filterNotsRow.holds Try.pinned (OpenSpec.ofChange filterNotsWrong)

/-- 'gristmilllaw05.FilterLaws': WHATEVER THE INPUT: true; the input reads as it did. -/
def filterLawsSpec : ChangeSpec := { name := "filterLaws", fn := fun _ => fun
  | [d1, d2, d3] => { results := [.lit (.bool true)], args := [d1, d2, d3] }
  | _ => none }
def filterLawsRow : OpenClaim := { program := "ytddjbhphhhdnfaa", sum := "7ad98db7c936e07ebdd834463b5fb9adc2dae3b72356d7341e9f5b375f87a066", func := "gristmill/gristmilllaw05.FilterLaws", spec := "filterLaws", unfollowed := true, recurses := true, loops := true, apart := false }
def FilterLawsSaid : Prop := filterLawsRow.holds Try.pinned (OpenSpec.ofChange filterLawsSpec)

/-- ITS FALSE NEIGHBOUR: 'it returns false'. Refute it at one input. -/
def filterLawsWrong : ChangeSpec := { name := "filterLaws", fn := fun _ => fun
  | [d1, d2, d3] => { results := [.lit (.bool false)], args := [d1, d2, d3] }
  | _ => none }
def FilterLawsWrongFalsely : Prop := filterLawsRow.holds Try.pinned (OpenSpec.ofChange filterLawsWrong)

/-- 'gristmilllaw05.FilterSame': WHATEVER THE INPUT: true; the input reads as it did. -/
def filterSameSpec : ChangeSpec := { name := "filterSame", fn := fun _ => fun
  | [d1, d2, d3] => { results := [.lit (.bool true)], args := [d1, d2, d3] }
  | _ => none }
def filterSameRow : OpenClaim := { program := "ytddjbhphhhdnfaa", sum := "7ad98db7c936e07ebdd834463b5fb9adc2dae3b72356d7341e9f5b375f87a066", func := "gristmill/gristmilllaw05.FilterSame", spec := "filterSame", unfollowed := true, recurses := true, loops := true, apart := false }
def FilterSameSaid : Prop := filterSameRow.holds Try.pinned (OpenSpec.ofChange filterSameSpec)

/-- ITS FALSE NEIGHBOUR: 'it returns false'. Refute it at one input. -/
def filterSameWrong : ChangeSpec := { name := "filterSame", fn := fun _ => fun
  | [d1, d2, d3] => { results := [.lit (.bool false)], args := [d1, d2, d3] }
  | _ => none }
def FilterSameWrongFalsely : Prop := filterSameRow.holds Try.pinned (OpenSpec.ofChange filterSameWrong)

/- THE SECOND FORM. 'bulk': how many values and letters a reading holds, each counted each time it is reached (what is shared counts as often as it is met; a slice's spare places count too). A statement '..UptoSaid' is the law's where the arguments, and the package variables that the reading takes, are together of bulk at most 1048576: NARROWER than '..Said'. Prove '..Said' where nothing that the law and all that it calls make is longer than what came in: it says more and counts as full. Else prove '..UptoSaid'. A law counts once. -/
mutual
def uptoBulk {H : Type} : DataW H → Nat
  | .lit (.string bytes) => bytes.length + 1
  | .lit _ => 1
  | .nil => 1
  | .ptr d => uptoBulk d + 1
  | .slice elems spare => uptoBulkAll elems + uptoBulkAll spare + 1
  | .agg parts => uptoBulkAll parts + 1
  | .iface _ d => uptoBulk d + 1
  | .map entries => uptoBulkEntries entries + 1
  | .held _ => 1
def uptoBulkAll {H : Type} : List (DataW H) → Nat
  | [] => 0
  | d :: r => uptoBulk d + uptoBulkAll r
def uptoBulkEntries {H : Type} : List (Lit × DataW H) → Nat
  | [] => 0
  | x :: r => uptoBulkEntry x + uptoBulkEntries r
def uptoBulkEntry {H : Type} : Lit × DataW H → Nat
  | (.string bytes, d) => bytes.length + uptoBulk d + 1
  | (_, d) => uptoBulk d + 1
 end
def uptoSmall : (H : Type) → List (DataW H) → Bool := fun _ ds => decide (uptoBulkAll ds ≤ 1048576)
def OpenSpec.upto (s : _root_.Go.ChangeSpec) : _root_.Go.OpenSpec := { _root_.Go.OpenSpec.ofChange s with cond := some uptoSmall }

/-- 'gristmilllaw05.FilterHolds', WHERE WHAT IT READS IS OF BULK AT MOST 1048576: true; the input reads as it did. -/
def filterHoldsUptoRow : OpenClaim := { program := "ytddjbhphhhdnfaa", sum := "7ad98db7c936e07ebdd834463b5fb9adc2dae3b72356d7341e9f5b375f87a066", func := "gristmill/gristmilllaw05.FilterHolds", spec := "filterHolds", unfollowed := true, recurses := true, loops := true, apart := false, narrowed := true }
def FilterHoldsUptoSaid : Prop := filterHoldsUptoRow.holds Try.pinned (OpenSpec.upto filterHoldsSpec)

/-- 'gristmilllaw05.FilterNots', WHERE WHAT IT READS IS OF BULK AT MOST 1048576: true; the input reads as it did. -/
def filterNotsUptoRow : OpenClaim := { program := "ytddjbhphhhdnfaa", sum := "7ad98db7c936e07ebdd834463b5fb9adc2dae3b72356d7341e9f5b375f87a066", func := "gristmill/gristmilllaw05.FilterNots", spec := "filterNots", unfollowed := true, recurses := true, loops := true, apart := false, narrowed := true }
def FilterNotsUptoSaid : Prop := filterNotsUptoRow.holds Try.pinned (OpenSpec.upto filterNotsSpec)

/-- 'gristmilllaw05.FilterLaws', WHERE WHAT IT READS IS OF BULK AT MOST 1048576: true; the input reads as it did. -/
def filterLawsUptoRow : OpenClaim := { program := "ytddjbhphhhdnfaa", sum := "7ad98db7c936e07ebdd834463b5fb9adc2dae3b72356d7341e9f5b375f87a066", func := "gristmill/gristmilllaw05.FilterLaws", spec := "filterLaws", unfollowed := true, recurses := true, loops := true, apart := false, narrowed := true }
def FilterLawsUptoSaid : Prop := filterLawsUptoRow.holds Try.pinned (OpenSpec.upto filterLawsSpec)

/-- 'gristmilllaw05.FilterSame', WHERE WHAT IT READS IS OF BULK AT MOST 1048576: true; the input reads as it did. -/
def filterSameUptoRow : OpenClaim := { program := "ytddjbhphhhdnfaa", sum := "7ad98db7c936e07ebdd834463b5fb9adc2dae3b72356d7341e9f5b375f87a066", func := "gristmill/gristmilllaw05.FilterSame", spec := "filterSame", unfollowed := true, recurses := true, loops := true, apart := false, narrowed := true }
def FilterSameUptoSaid : Prop := filterSameUptoRow.holds Try.pinned (OpenSpec.upto filterSameSpec)

end Rows
end Go.Proofs.Ytddjbhphhhdnfaa
