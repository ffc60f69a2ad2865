/- More leaves of the evaluator: maps.Keys. -/
import Derived.Test.YtpincjkjoeopkaaGreatDoorF9Tab
set_option linter.unusedSimpArgs false
set_option linter.unusedVariables false
set_option linter.unusedSectionVars false
namespace Go.Proofs.YtpincjkjoeopkaaGreatDoor
open Go Go.Abs
set_option linter.unusedSimpArgs false
set_option linter.unusedVariables false

theorem mapsKeysA_ok {rows : List Row} {a : Nat} : AFn Tryz.prog 116 [.mref a] rows
    (fun v rs => v = .fn 204 [.ref rows.length 1 0 0] ∧ rs = rows ++ [.live 224 1 [[.mref a]]]) := by
  refine AFn.keys fun mb w => ?_
  go_enter Tryz.func116, Tryz.ntmps116
  go_wp2
  go_ret
  exact ⟨rfl, rfl⟩
def runKeysA (args : List AVal) (rows : List Row) : Option (AVal × List Row) :=
  match args with
  | [.mref a] => some (.fn 204 [.ref rows.length 1 0 0], rows ++ [.live 224 1 [[.mref a]]])
  | _ => none
theorem runKeysA_ok (args : List AVal) (rows : List Row) (v : AVal) (rs : List Row) (h : runKeysA args rows = some (v, rs)) : AFn Tryz.prog 116 args rows fun v' rs' => v' = v ∧ rs' = rs := by
  unfold runKeysA at h
  split at h
  · simp only [Option.some.injEq, Prod.mk.injEq] at h
    obtain ⟨rfl, rfl⟩ := h
    exact mapsKeysA_ok
  · cases h
def leavesR : List (XLeaf Tryz.prog) := [⟨47, runSorted, runSorted_ok⟩, ⟨116, runKeysA, runKeysA_ok⟩]
theorem mrkR_ok : AFn Tryz.prog 42 [.agg [.int .i64 0, .nils], .nils, .nils, .nils] [] (fun v rs => v = .tup [.nils, .int .i64 0] ∧ rs = []) :=
  run_afn (T := tab) (L := leavesR) 60 [(.tup [.nils, .int .i64 0], [])] (by kernel_rfl) (by intro o h; rw [List.mem_singleton] at h; subst h; exact ⟨rfl, rfl⟩)

end Go.Proofs.YtpincjkjoeopkaaGreatDoor
