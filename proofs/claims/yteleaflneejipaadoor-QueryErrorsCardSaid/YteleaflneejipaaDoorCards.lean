/-
  DERIVED. GIVEN WITH THE SEED: THE CARDS: each row of YteleaflneejipaaDoorRows.lean that lists a variable, with what it lists TIED to the program's text (the seventh form; the later family's looks); each row that meets fmt, with fmt's text TOLD by the authors' own Lean function (tested against real Go, not proved from fmt's source: count such statements apart). THE CARD IS WHAT COUNTS. Prove the row's statement (the work); the ties are given (YteleaflneejipaaDoorTie.lean); close each card by the builder's one call (the guide's Derived/Test/ToyasCard.lean, 'card_holds'). Laid BY PROGRAM, IN A SANDBOX (cutbox-door.mjs). By AI agents, Wed Nov 11 2026. No macro, syntax, notation, axiom, sorry.
-/
import Derived.Test.YteleaflneejipaaDoorRows
import GoSem.ClaimSeven
namespace Go.Proofs.YteleaflneejipaaDoor
namespace Rows

/-- THE TIED CARD OF 'gristmilllaw08.QuerySets'. -/
def querySetsCard : Claim7 := { stood := { row := querySetsRow, standIns := [], harness := (true, "a0fa34f4406ebcf6b710642856f1d4d39dd2c4ab644a155ee77bf197af9b77f1"), looks := true }, kinds := [], alts := [], laidByText := true, laidKinds := [.handle], laidTests := true, laidLooks := .later }
def QuerySetsCardSaid : Prop := Claim7.holds Tryd.pinned (.plain (OpenSpec.ofChange querySetsSpec)) querySetsCard

/-- THE TIED CARD OF 'gristmilllaw08.QueryFits'. -/
def queryFitsCard : Claim7 := { stood := { row := queryFitsRow, standIns := [], harness := (true, "a0fa34f4406ebcf6b710642856f1d4d39dd2c4ab644a155ee77bf197af9b77f1"), looks := true }, kinds := [], alts := [], laidByText := true, laidKinds := [.handle], laidTests := true, laidLooks := .later }
def QueryFitsCardSaid : Prop := Claim7.holds Tryd.pinned (.plain (OpenSpec.ofChange queryFitsSpec)) queryFitsCard

/-- THE TIED CARD OF 'gristmilllaw08.QueryErrors'. -/
def queryErrorsCard : Claim7 := { stood := { row := queryErrorsRow, standIns := [], harness := (true, "a0fa34f4406ebcf6b710642856f1d4d39dd2c4ab644a155ee77bf197af9b77f1"), looks := true }, kinds := [], alts := [], laidByText := true, laidKinds := [.data, .data, .data, .handle], laidTests := true, laidLooks := .later }
def QueryErrorsCardSaid : Prop := Claim7.holds Tryd.pinned (.plain (OpenSpec.ofChange queryErrorsSpec)) queryErrorsCard

/-- THE SECOND FORM's CARD OF 'gristmilllaw08.QuerySets'. -/
def querySetsUptoCard : Claim7 := { stood := { row := querySetsUptoRow, standIns := [], harness := (true, "a0fa34f4406ebcf6b710642856f1d4d39dd2c4ab644a155ee77bf197af9b77f1"), looks := true }, kinds := [], alts := [], laidByText := true, laidKinds := [.handle], laidTests := true, laidLooks := .later }
def QuerySetsUptoCardSaid : Prop := Claim7.holds Tryd.pinned (.plain (OpenSpec.upto querySetsSpec)) querySetsUptoCard

/-- THE SECOND FORM's CARD OF 'gristmilllaw08.QueryFits'. -/
def queryFitsUptoCard : Claim7 := { stood := { row := queryFitsUptoRow, standIns := [], harness := (true, "a0fa34f4406ebcf6b710642856f1d4d39dd2c4ab644a155ee77bf197af9b77f1"), looks := true }, kinds := [], alts := [], laidByText := true, laidKinds := [.handle], laidTests := true, laidLooks := .later }
def QueryFitsUptoCardSaid : Prop := Claim7.holds Tryd.pinned (.plain (OpenSpec.upto queryFitsSpec)) queryFitsUptoCard

/-- THE SECOND FORM's CARD OF 'gristmilllaw08.QueryErrors'. -/
def queryErrorsUptoCard : Claim7 := { stood := { row := queryErrorsUptoRow, standIns := [], harness := (true, "a0fa34f4406ebcf6b710642856f1d4d39dd2c4ab644a155ee77bf197af9b77f1"), looks := true }, kinds := [], alts := [], laidByText := true, laidKinds := [.data, .data, .data, .handle], laidTests := true, laidLooks := .later }
def QueryErrorsUptoCardSaid : Prop := Claim7.holds Tryd.pinned (.plain (OpenSpec.upto queryErrorsSpec)) queryErrorsUptoCard
end Rows
end Go.Proofs.YteleaflneejipaaDoor
