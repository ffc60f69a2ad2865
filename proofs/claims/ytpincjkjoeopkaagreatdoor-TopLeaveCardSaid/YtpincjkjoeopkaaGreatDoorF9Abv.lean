/- Valid absences. -/
import Derived.Test.YtpincjkjoeopkaaGreatDoorFgC
set_option linter.unusedSimpArgs false
set_option linter.unusedVariables false
set_option linter.unusedSectionVars false
namespace Go.Proofs.YtpincjkjoeopkaaGreatDoor
open Go Go.Abs
set_option linter.unusedSimpArgs false
set_option linter.unusedVariables false

def abFine (a : Ab) : Prop := 1 ≤ a.emp ∧ a.emp ≤ 2147483647 ∧ 0 ≤ a.day ∧ a.day ≤ 84005 ∧ -1 ≤ a.min ∧ a.min ≤ 1440
theorem vAbs_ok (a : Ab) (h : abFine a) (hn : AFn Tryz.prog 108 [.str a.name] [] (fun v rs => v = .bool true ∧ rs = [])) : AFn Tryz.prog 40 [.agg (Cel.c a)] [] (fun v rs => v = .bool true ∧ rs = []) := by
  obtain ⟨h1, h2, h3, h4, h5, h6⟩ := h
  have d1 : decide (1 ≤ a.emp) = true := decide_eq_true h1
  have d2 : decide (a.emp ≤ 2147483647) = true := decide_eq_true h2
  have d3 : decide (0 ≤ a.day) = true := decide_eq_true h3
  have d4 : decide (a.day ≤ 84005) = true := decide_eq_true h4
  have d5 : decide (-1 ≤ a.min) = true := decide_eq_true h5
  have d6 : decide (a.min ≤ 1440) = true := decide_eq_true h6
  refine afn Tryz.func40 a40_ok (by simp [a40, s40]) ?_
  simp only [go_sem,a40,s40,cel_ab,d1,d2,d3,d4,d5,d6,int_m1]
  refine callC_det hn rfl rfl ?_
  simp only [go_sem,d5,d6,int_m1]
  exact Cl.fin rfl ⟨rfl, rfl⟩
end Go.Proofs.YtpincjkjoeopkaaGreatDoor
