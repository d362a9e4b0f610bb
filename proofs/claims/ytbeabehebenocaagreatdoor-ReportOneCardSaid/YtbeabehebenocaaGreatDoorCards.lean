/-
  DERIVED. GIVEN WITH THE SEED: THE CARDS: each row of YtbeabehebenocaaGreatDoorRows.lean that lists a variable, with what it lists TIED to the program's text (the seventh form; the later family's looks); each row that meets fmt, with fmt's text TOLD by the authors' own Lean function (tested against real Go, not proved from fmt's source: count such statements apart). THE CARD IS WHAT COUNTS. Prove the row's statement (the work); the ties are given (YtbeabehebenocaaGreatDoorTie.lean); close each card by the builder's one call (the guide's Derived/Test/ToyasCard.lean, 'card_holds'). Laid BY PROGRAM, IN A SANDBOX (cutbox-door.mjs). By AI agents, Wed Nov 11 2026. No macro, syntax, notation, axiom, sorry.
-/
import Derived.Test.YtbeabehebenocaaGreatDoorRows
import GoSem.ClaimSeven
namespace Go.Proofs.YtbeabehebenocaaGreatDoor
namespace Rows

/-- THE TIED CARD OF 'lockgatelaw32.ReportOne'. -/
def reportOneCard : Claim7 := { stood := { row := reportOneRow, standIns := [], harness := (true, "25ee549d8b89f3a8b3794069f6f2af8534ff7c3c8321e4182f3542c966172286"), looks := false }, kinds := [], alts := [], laidByText := true, laidKinds := [.data, .data, .data], laidTests := true, laidLooks := .later }
def ReportOneCardSaid : Prop := Claim7.holds Tryz.pinned (.plain (OpenSpec.ofChange reportOneSpec)) reportOneCard

/-- THE SECOND FORM's CARD OF 'lockgatelaw32.ReportOne'. -/
def reportOneUptoCard : Claim7 := { stood := { row := reportOneUptoRow, standIns := [], harness := (true, "25ee549d8b89f3a8b3794069f6f2af8534ff7c3c8321e4182f3542c966172286"), looks := false }, kinds := [], alts := [], laidByText := true, laidKinds := [.data, .data, .data], laidTests := true, laidLooks := .later }
def ReportOneUptoCardSaid : Prop := Claim7.holds Tryz.pinned (.plain (OpenSpec.upto reportOneSpec)) reportOneUptoCard
end Rows
end Go.Proofs.YtbeabehebenocaaGreatDoor
