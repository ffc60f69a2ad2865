/- Sums of premiums, in plain words. -/
import Derived.Test.YtefemdpicjgkeaaGreatDoorZ8Mrk
set_option linter.unusedSimpArgs false
set_option linter.unusedVariables false
set_option linter.unusedSectionVars false
namespace Go.Proofs.YtefemdpicjgkeaaGreatDoor
open Go Go.Abs
set_option linter.unusedSimpArgs false
set_option linter.unusedVariables false

end Go.Proofs.YtefemdpicjgkeaaGreatDoor
