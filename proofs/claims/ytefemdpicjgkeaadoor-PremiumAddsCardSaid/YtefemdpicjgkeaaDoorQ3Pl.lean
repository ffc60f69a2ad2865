/- The calendar in plain words: a date is the only one of its day. -/
import Derived.Test.YtefemdpicjgkeaaDoorQ3LEas
set_option linter.unusedSimpArgs false
set_option linter.unusedVariables false
set_option linter.unusedSectionVars false
namespace Go.Proofs.YtefemdpicjgkeaaDoor
open Go Go.Abs

end Go.Proofs.YtefemdpicjgkeaaDoor
