/- The reference of chapter 3: days, months, Easter. -/
import Derived.Test.YtefemdpicjgkeaaDoorQ3Ref
set_option linter.unusedSimpArgs false
set_option linter.unusedVariables false
set_option linter.unusedSectionVars false
namespace Go.Proofs.YtefemdpicjgkeaaDoor
open Go Go.Abs
set_option linter.unusedSimpArgs false

end Go.Proofs.YtefemdpicjgkeaaDoor
