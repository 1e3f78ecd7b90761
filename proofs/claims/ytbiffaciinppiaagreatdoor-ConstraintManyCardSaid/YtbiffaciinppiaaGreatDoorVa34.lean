/- The closed facts of the program that every row asks. -/
import Derived.Test.YtbiffaciinppiaaGreatDoorRows
import Derived.JoinedOf
set_option linter.unusedVariables false
set_option linter.unusedSimpArgs false
namespace Go.Proofs.YtbiffaciinppiaaGreatDoor
set_option maxRecDepth 100000
theorem fact1 : laidOutB Tryz.pinned.checked.prog = true := by kernel_rfl
theorem fact2 : mapsRowed Tryz.pinned.checked.prog = true := by kernel_rfl
theorem fact6 : (Tryz.pinned.checked.prog.stops == []) = true := by kernel_rfl
theorem fact8 : (Tryz.pinned.checked.prog.stopKnobs == []) = true := by kernel_rfl
theorem fact24 : Tryz.pinned.checked.prog.stopsHeard = true := by kernel_rfl
theorem fact25 : Tryz.pinned.checked.prog.mayEnter = true := by kernel_rfl
theorem fact26 : (Rows.constraintVariablesRow.lifted == Tryz.pinned.checked.prog.liftsFinal) = true := by kernel_rfl
theorem fact27 : (Tryz.pinned.checked.prog.make == some Rows.constraintVariablesRow.make) = true := by kernel_rfl
end Go.Proofs.YtbiffaciinppiaaGreatDoor
