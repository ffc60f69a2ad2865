/- The forms of functions. -/
import Derived.Test.YtpincjkjoeopkaaGreatDoorW9
import Derived.Test.YtpincjkjoeopkaaGreatDoorW10
import Derived.Test.YtpincjkjoeopkaaGreatDoorW11
import Derived.Test.YtpincjkjoeopkaaGreatDoorW12
import Derived.Test.YtpincjkjoeopkaaGreatDoorW13
import Derived.KernelRfl
set_option linter.all false
set_option maxRecDepth 100000
set_option maxHeartbeats 2000000
namespace Go.Proofs.YtpincjkjoeopkaaGreatDoor
open Go Go.Abs
end Go.Proofs.YtpincjkjoeopkaaGreatDoor
