/- The card of CallsPrint. -/
import Derived.Test.YtlkeegmpjjoicaaDoorCards
import Derived.Test.YtlkeegmpjjoicaaDoorTie
import Derived.SevenTiedAt
import Derived.Test.YtlkeegmpjjoicaaDoorPrt04
set_option linter.all false
set_option linter.unusedSimpArgs false
set_option linter.unusedVariables false
set_option linter.unusedSectionVars false
namespace Go.Proofs.YtlkeegmpjjoicaaDoor
open Go
set_option maxRecDepth 100000
theorem print_holds : Rows.CallsPrintCardSaid :=
  Claim7.holds_tied_plain_at .later [] [.data, .data, .data, .sentinel, .sentinel] true (true, "04bfd204be2f2637f41b617874d68d02a3bae14260d2ae1576e2d7b7c34b6515") true
    print_said (fun _ h => by cases h) (by kernel_rfl) (fun _ h => by cases h) callsPrint_row_tie rfl ⟨rfl, rfl⟩ (by kernel_rfl) rfl
    (fun f fn hf hfn => by
      obtain rfl : f = 3 := Option.some.inj ((show Tryd.prog.funcNamed "lockgate/lockgatelaw26.CallsPrint" = some 3 by kernel_rfl).symm.trans hf) |>.symm
      obtain rfl : fn = Tryd.f3 := (Option.some.inj (Tryd.func3.symm.trans hfn)).symm
      exact ⟨by kernel_rfl, fun j t ht => by
        rw [Tryd.params3] at ht
        have h3 : t = 24 := by
          rcases j with _ | j
          · simpa using ht.symm
          · simp at ht
        subst h3
        exact (show Tryd.prog.wantsStandIn 24 = false by kernel_rfl)⟩)
    (by kernel_rfl)
end Go.Proofs.YtlkeegmpjjoicaaDoor
