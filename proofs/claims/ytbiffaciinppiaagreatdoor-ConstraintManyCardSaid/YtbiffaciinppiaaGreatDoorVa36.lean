/- The closed facts of the row of ConstraintVariables. -/
import Derived.Test.YtbiffaciinppiaaGreatDoorVa34
import Derived.Test.YtbiffaciinppiaaGreatDoorVa35
set_option linter.unusedVariables false
set_option linter.unusedSimpArgs false
namespace Go.Proofs.YtbiffaciinppiaaGreatDoor.constraintVariables
set_option maxRecDepth 100000
set_option maxHeartbeats 4000000 in
theorem closed : joinedFacts Tryz.pinned.checked.prog 3 Tryz.f3 (OpenSpec.ofChange Rows.constraintVariablesSpec).bare Rows.constraintVariablesRow = true := by
  refine joined_of ?_ fact1 fact2 ?_ ?_ ?_ fact6 ?_ fact8 ?_ ?_ ?_ ?_ ?_ ?_ ?_ ?_ ?_ ?_ ?_ ?_ ?_ ?_ ?_ fact24 fact25 fact26 fact27 ?_ ?_ ?_ ?_
  all_goals as_aux_lemma => kernel_rfl
end Go.Proofs.YtbiffaciinppiaaGreatDoor.constraintVariables
