/- The abstract forms of functions, computed. -/
import Derived.Test.YtpincjkjoeopkaaGreatDoorB4Fm0
import Derived.Test.YtpincjkjoeopkaaGreatDoorB4Fm1
import Derived.Test.YtpincjkjoeopkaaGreatDoorB4Fm2
import Derived.KernelRfl
set_option linter.unusedSimpArgs false
set_option linter.unusedVariables false
set_option linter.unusedSectionVars false
set_option maxRecDepth 100000
set_option maxHeartbeats 2000000
namespace Go.Proofs.YtpincjkjoeopkaaGreatDoor
open Go Go.Abs
end Go.Proofs.YtpincjkjoeopkaaGreatDoor
