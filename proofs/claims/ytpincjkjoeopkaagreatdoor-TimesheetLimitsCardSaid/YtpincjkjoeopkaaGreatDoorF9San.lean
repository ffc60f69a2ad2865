/- The example sane() is true. -/
import Derived.Test.YtpincjkjoeopkaaGreatDoorF9Lf4
set_option linter.unusedSimpArgs false
set_option linter.unusedVariables false
set_option linter.unusedSectionVars false
namespace Go.Proofs.YtpincjkjoeopkaaGreatDoor
open Go Go.Abs
set_option maxRecDepth 1000000

theorem sane_ok : AFn Tryz.prog 15 [] [] (fun v rs => v = .bool true ∧ rs = []) :=
  run_afn (T := tab) (L := leavesS) 60 [(.bool true, []), (.bool true, [])] (by kernel_rfl) (by intro o h; simp only [List.mem_cons, List.not_mem_nil, or_false, or_self] at h; subst h; exact ⟨rfl, rfl⟩)

end Go.Proofs.YtpincjkjoeopkaaGreatDoor
