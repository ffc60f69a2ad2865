/- The reference: the holidays of a year. -/
import Derived.Test.YtlanehcihoiglaaGreatDoorE3Ref5
set_option linter.unusedSimpArgs false
set_option linter.unusedVariables false
set_option linter.unusedSectionVars false
namespace Go.Proofs.YtlanehcihoiglaaGreatDoor
open Go Go.Abs
open Go.RowKit (Below)
set_option linter.unusedSimpArgs false
set_option linter.unusedVariables false

end Go.Proofs.YtlanehcihoiglaaGreatDoor
