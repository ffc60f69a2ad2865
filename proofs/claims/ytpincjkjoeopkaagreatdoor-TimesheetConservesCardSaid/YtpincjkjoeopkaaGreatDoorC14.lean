/- The forms of functions. -/
import Derived.Test.YtpincjkjoeopkaaGreatDoorC9
import Derived.Test.YtpincjkjoeopkaaGreatDoorC10
import Derived.Test.YtpincjkjoeopkaaGreatDoorC11
import Derived.Test.YtpincjkjoeopkaaGreatDoorC12
import Derived.Test.YtpincjkjoeopkaaGreatDoorC13
set_option linter.all false
set_option maxRecDepth 100000
set_option maxHeartbeats 2000000
namespace Go.Proofs.YtpincjkjoeopkaaGreatDoor
open Go Go.Abs
end Go.Proofs.YtpincjkjoeopkaaGreatDoor
