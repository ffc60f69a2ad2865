/- The example timed() is true. -/
import Derived.Test.YtpincjkjoeopkaaGreatDoorF9Mk0
set_option linter.unusedSimpArgs false
set_option linter.unusedVariables false
set_option linter.unusedSectionVars false
namespace Go.Proofs.YtpincjkjoeopkaaGreatDoor
open Go Go.Abs
set_option maxRecDepth 1000000

theorem timed_ok : AFn Tryz.prog 35 [] [] (fun v rs => v = .bool true ∧ rs = []) :=
  run_afn (T := tab) (L := leavesMC) 60 [(.bool true, [])] (by kernel_rfl) (by intro o h; rw [List.mem_singleton] at h; subst h; exact ⟨rfl, rfl⟩)

end Go.Proofs.YtpincjkjoeopkaaGreatDoor
