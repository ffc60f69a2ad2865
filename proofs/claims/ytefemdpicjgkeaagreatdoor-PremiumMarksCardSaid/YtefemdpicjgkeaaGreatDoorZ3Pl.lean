/- The calendar in plain words: a date is the only one of its day. -/
import Derived.Test.YtefemdpicjgkeaaGreatDoorZ3LEas
set_option linter.unusedSimpArgs false
set_option linter.unusedVariables false
set_option linter.unusedSectionVars false
namespace Go.Proofs.YtefemdpicjgkeaaGreatDoor
open Go Go.Abs

theorem begin_mono {a b : Int} (h : a ≤ b) : beginP a ≤ beginP b := by
  simp only [beginP, leapsP]
  omega
theorem date_bounds {y : Int} {m : Nat} {r : Int} (h1 : 1 ≤ m) (h2 : m ≤ 12) (h3 : 0 ≤ r) (h4 : r < lenP y m) : beginP y ≤ beginP y + sumL y (m - 1) + r ∧ beginP y + sumL y (m - 1) + r < beginP (y + 1) := by
  obtain ⟨j, rfl⟩ : ∃ j, m = j + 1 := ⟨m - 1, by omega⟩
  have hs : sumL y (j + 1) = sumL y j + lenP y (((j + 1 : Nat) : Int)) := rfl
  have hm := sumL_mono y (a := j + 1) (b := 12) h2 (by omega)
  have hb := sumL_bd y j (by omega)
  rw [begin_succ]
  simp only [Nat.add_sub_cancel]
  omega
end Go.Proofs.YtefemdpicjgkeaaGreatDoor
