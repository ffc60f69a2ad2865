/- The forms of functions. -/
import Derived.Test.YtpincjkjoeopkaaGreatDoorD9
import Derived.Test.YtpincjkjoeopkaaGreatDoorD10
import Derived.Test.YtpincjkjoeopkaaGreatDoorD11
import Derived.Test.YtpincjkjoeopkaaGreatDoorD12
import Derived.Test.YtpincjkjoeopkaaGreatDoorD13
import Derived.KernelRfl
set_option linter.all false
set_option maxRecDepth 100000
set_option maxHeartbeats 2000000
namespace Go.Proofs.YtpincjkjoeopkaaGreatDoor
open Go Go.Abs
end Go.Proofs.YtpincjkjoeopkaaGreatDoor
