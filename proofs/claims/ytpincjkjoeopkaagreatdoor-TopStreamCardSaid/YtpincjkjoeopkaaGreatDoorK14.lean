/- The forms of functions. -/
import Derived.Test.YtpincjkjoeopkaaGreatDoorK9
import Derived.Test.YtpincjkjoeopkaaGreatDoorK10
import Derived.Test.YtpincjkjoeopkaaGreatDoorK11
import Derived.Test.YtpincjkjoeopkaaGreatDoorK12
import Derived.Test.YtpincjkjoeopkaaGreatDoorK13
import Derived.KernelRfl
set_option linter.unusedSimpArgs false
set_option linter.unusedVariables false
set_option linter.unusedSectionVars false
set_option maxRecDepth 100000
set_option maxHeartbeats 2000000
namespace Go.Proofs.YtpincjkjoeopkaaGreatDoor
open Go Go.Abs
end Go.Proofs.YtpincjkjoeopkaaGreatDoor
