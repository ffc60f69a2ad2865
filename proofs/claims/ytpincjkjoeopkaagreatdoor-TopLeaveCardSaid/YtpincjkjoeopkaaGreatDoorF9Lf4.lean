/- A leaf of the evaluator: slices.Sorted of strings; the examples sane() and timed(). -/
import Derived.Test.YtpincjkjoeopkaaGreatDoorF9Mk0
import Derived.Test.YtpincjkjoeopkaaGreatDoorF9Kss
set_option linter.unusedSimpArgs false
set_option linter.unusedVariables false
set_option linter.unusedSectionVars false
namespace Go.Proofs.YtpincjkjoeopkaaGreatDoor
open Go Go.Abs
set_option linter.unusedSimpArgs false
set_option linter.unusedVariables false

theorem mapsKeysS_ok {rows : List Row} {a : Nat} : AFn Tryz.prog 105 [.mref a] rows
    (fun v rs => v = .fn 189 [.ref rows.length 1 0 0] ∧ rs = rows ++ [.live 201 1 [[.mref a]]]) := by
  refine AFn.keys fun mb w => ?_
  go_enter Tryz.func105, Tryz.ntmps105
  go_wp2
  go_ret
  exact ⟨rfl, rfl⟩
end Go.Proofs.YtpincjkjoeopkaaGreatDoor
