/- PremiumCounts: the walk. -/
import Derived.Test.YtefemdpicjgkeaaDoorQ8Tap3
import Derived.Test.YtefemdpicjgkeaaDoorQ8CPl
import Derived.Test.YtefemdpicjgkeaaDoorQ8San
set_option linter.unusedSimpArgs false
set_option linter.unusedVariables false
set_option linter.unusedSectionVars false
namespace Go.Proofs.YtefemdpicjgkeaaDoor
open Go Go.Abs
set_option linter.unusedSimpArgs false
set_option linter.unusedVariables false

theorem validP_mk' {l : List Hol} (h1 : l.length ≤ 1024) (h2 : validL l = true) : validP l = 0 := by rw [validP, if_neg (by omega), if_pos h2]
end Go.Proofs.YtefemdpicjgkeaaDoor
