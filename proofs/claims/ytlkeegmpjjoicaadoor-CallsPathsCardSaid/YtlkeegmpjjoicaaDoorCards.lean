/-
  DERIVED. GIVEN WITH THE SEED: THE CARDS: each row of YtlkeegmpjjoicaaDoorRows.lean that lists a variable, with what it lists TIED to the program's text (the seventh form; the later family's looks); each row that meets fmt, with fmt's text TOLD by the authors' own Lean function (tested against real Go, not proved from fmt's source: count such statements apart). THE CARD IS WHAT COUNTS. Prove the row's statement (the work); the ties are given (YtlkeegmpjjoicaaDoorTie.lean); close each card by the builder's one call (the guide's Derived/Test/ToyasCard.lean, 'card_holds'). Laid BY PROGRAM, IN A SANDBOX (cutbox-door.mjs). By AI agents, Wed Nov 11 2026. No macro, syntax, notation, axiom, sorry.
-/
import Derived.Test.YtlkeegmpjjoicaaDoorRows
import GoSem.ClaimSeven
namespace Go.Proofs.YtlkeegmpjjoicaaDoor
namespace Rows

/-- THE TIED CARD OF 'lockgatelaw26.CallsPrint'. -/
def callsPrintCard : Claim7 := { stood := { row := callsPrintRow, standIns := [], harness := (true, "04bfd204be2f2637f41b617874d68d02a3bae14260d2ae1576e2d7b7c34b6515"), looks := true }, kinds := [], alts := [], laidByText := true, laidKinds := [.data, .data, .data, .sentinel, .sentinel], laidTests := true, laidLooks := .later }
def CallsPrintCardSaid : Prop := Claim7.holds Tryd.pinned (.plain (OpenSpec.ofChange callsPrintSpec)) callsPrintCard

/-- THE TIED CARD OF 'lockgatelaw26.CallsPaths'. -/
def callsPathsCard : Claim7 := { stood := { row := callsPathsRow, standIns := [], harness := (true, "04bfd204be2f2637f41b617874d68d02a3bae14260d2ae1576e2d7b7c34b6515"), looks := true }, kinds := [], alts := [], laidByText := true, laidKinds := [.data, .data, .data, .sentinel, .sentinel], laidTests := true, laidLooks := .later }
def CallsPathsCardSaid : Prop := Claim7.holds Tryd.pinned (.plain (OpenSpec.ofChange callsPathsSpec)) callsPathsCard

/-- THE TIED CARD OF 'lockgatelaw26.CallsData'. -/
def callsDataCard : Claim7 := { stood := { row := callsDataRow, standIns := [], harness := (true, "04bfd204be2f2637f41b617874d68d02a3bae14260d2ae1576e2d7b7c34b6515"), looks := true }, kinds := [], alts := [], laidByText := true, laidKinds := [.data, .data, .data, .sentinel, .sentinel], laidTests := true, laidLooks := .later }
def CallsDataCardSaid : Prop := Claim7.holds Tryd.pinned (.plain (OpenSpec.ofChange callsDataSpec)) callsDataCard

/-- THE SECOND FORM's CARD OF 'lockgatelaw26.CallsPrint'. -/
def callsPrintUptoCard : Claim7 := { stood := { row := callsPrintUptoRow, standIns := [], harness := (true, "04bfd204be2f2637f41b617874d68d02a3bae14260d2ae1576e2d7b7c34b6515"), looks := true }, kinds := [], alts := [], laidByText := true, laidKinds := [.data, .data, .data, .sentinel, .sentinel], laidTests := true, laidLooks := .later }
def CallsPrintUptoCardSaid : Prop := Claim7.holds Tryd.pinned (.plain (OpenSpec.upto callsPrintSpec)) callsPrintUptoCard

/-- THE SECOND FORM's CARD OF 'lockgatelaw26.CallsPaths'. -/
def callsPathsUptoCard : Claim7 := { stood := { row := callsPathsUptoRow, standIns := [], harness := (true, "04bfd204be2f2637f41b617874d68d02a3bae14260d2ae1576e2d7b7c34b6515"), looks := true }, kinds := [], alts := [], laidByText := true, laidKinds := [.data, .data, .data, .sentinel, .sentinel], laidTests := true, laidLooks := .later }
def CallsPathsUptoCardSaid : Prop := Claim7.holds Tryd.pinned (.plain (OpenSpec.upto callsPathsSpec)) callsPathsUptoCard

/-- THE SECOND FORM's CARD OF 'lockgatelaw26.CallsData'. -/
def callsDataUptoCard : Claim7 := { stood := { row := callsDataUptoRow, standIns := [], harness := (true, "04bfd204be2f2637f41b617874d68d02a3bae14260d2ae1576e2d7b7c34b6515"), looks := true }, kinds := [], alts := [], laidByText := true, laidKinds := [.data, .data, .data, .sentinel, .sentinel], laidTests := true, laidLooks := .later }
def CallsDataUptoCardSaid : Prop := Claim7.holds Tryd.pinned (.plain (OpenSpec.upto callsDataSpec)) callsDataUptoCard
end Rows
end Go.Proofs.YtlkeegmpjjoicaaDoor
