/- The card of ReportOne: it answers true whatever its input, and its input reads as it did. No condition beyond the tables. -/
import Derived.Test.YtbeabehebenocaaGreatDoorCards
import Derived.Test.YtbeabehebenocaaGreatDoorTie
import Derived.SevenTiedAt
import Derived.Test.YtbeabehebenocaaGreatDoorRpo15
set_option linter.all false
set_option linter.unusedSimpArgs false
set_option linter.unusedVariables false
set_option linter.unusedSectionVars false
namespace Go.Proofs.YtbeabehebenocaaGreatDoor
open Go
set_option maxRecDepth 100000
theorem one_holds : Rows.ReportOneCardSaid :=
  Claim7.holds_tied_plain_at .later [] [.data, .data, .data] true (true, "25ee549d8b89f3a8b3794069f6f2af8534ff7c3c8321e4182f3542c966172286") false
    one_said (fun _ h => by cases h) (by kernel_rfl) (fun _ h => by cases h) reportOne_row_tie rfl ⟨rfl, rfl⟩ (by kernel_rfl) rfl
    (fun f fn hf hfn => by
      obtain rfl : f = 3 := Option.some.inj ((show Tryz.prog.funcNamed "lockgate/lockgatelaw32.ReportOne" = some 3 by kernel_rfl).symm.trans hf) |>.symm
      obtain rfl : fn = Tryz.f3 := (Option.some.inj (Tryz.func3.symm.trans hfn)).symm
      exact ⟨by kernel_rfl, fun j t ht => by
        rw [Tryz.params3] at ht
        have h3 : t = 3 := by
          rcases j with _ | _ | j
          · simpa using ht.symm
          · simpa using ht.symm
          · simp at ht
        subst h3
        exact (show Tryz.prog.wantsStandIn 3 = false by kernel_rfl)⟩)
    (by kernel_rfl)
end Go.Proofs.YtbeabehebenocaaGreatDoor
