/-
  DERIVED. GIVEN WITH THE SEED: THE CARDS: each row of YtgagbfaodeakaaaDoorRows.lean that lists a variable, with what it lists TIED to the program's text (the seventh form; the later family's looks); each row that meets fmt, with fmt's text TOLD by the authors' own Lean function (tested against real Go, not proved from fmt's source: count such statements apart). THE CARD IS WHAT COUNTS. Prove the row's statement (the work); the ties are given (YtgagbfaodeakaaaDoorTie.lean); close each card by the builder's one call (the guide's Derived/Test/ToyasCard.lean, 'card_holds'). Laid BY PROGRAM, IN A SANDBOX (cutbox-door.mjs). By AI agents, Wed Nov 11 2026. No macro, syntax, notation, axiom, sorry.
-/
import Derived.Test.YtgagbfaodeakaaaDoorRows
import GoSem.ClaimSeven
namespace Go.Proofs.YtgagbfaodeakaaaDoor
namespace Rows

/-- THE TIED CARD OF 'bakekeep3.PaperBack'. -/
def paperBackCard : Claim7 := { stood := { row := paperBackRow, standIns := [], harness := (true, "969dc0590526fe75401140eb863fc992695c556daf4db3f127407cdf2797ca08"), looks := false }, kinds := [], alts := [], laidByText := true, laidKinds := [.data, .pinned], laidTests := true, laidLooks := .later }
def PaperBackCardSaid : Prop := Claim7.holds Tryd.pinned (.plain (OpenSpec.ofChange paperBackSpec)) paperBackCard

/-- THE SECOND FORM's CARD OF 'bakekeep3.PaperBack'. -/
def paperBackUptoCard : Claim7 := { stood := { row := paperBackUptoRow, standIns := [], harness := (true, "969dc0590526fe75401140eb863fc992695c556daf4db3f127407cdf2797ca08"), looks := false }, kinds := [], alts := [], laidByText := true, laidKinds := [.data, .pinned], laidTests := true, laidLooks := .later }
def PaperBackUptoCardSaid : Prop := Claim7.holds Tryd.pinned (.plain (OpenSpec.upto paperBackSpec)) paperBackUptoCard
end Rows
end Go.Proofs.YtgagbfaodeakaaaDoor
