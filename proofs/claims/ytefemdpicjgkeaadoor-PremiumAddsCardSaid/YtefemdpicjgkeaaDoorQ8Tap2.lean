/- Made pieces (UNDER WAY: does not build yet). -/
import Derived.Test.YtefemdpicjgkeaaDoorQ8Tap
set_option linter.unusedSimpArgs false
set_option linter.unusedVariables false
set_option linter.unusedSectionVars false
namespace Go.Proofs.YtefemdpicjgkeaaDoor
open Go Go.Abs
set_option linter.unusedSimpArgs false
set_option linter.unusedVariables false

end Go.Proofs.YtefemdpicjgkeaaDoor
