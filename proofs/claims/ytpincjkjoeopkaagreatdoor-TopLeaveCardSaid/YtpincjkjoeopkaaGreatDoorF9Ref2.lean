/- The reference: Planned, missed. -/
import Derived.Test.YtpincjkjoeopkaaGreatDoorF9Ref
import Derived.Test.YtpincjkjoeopkaaGreatDoorF9AdA
set_option linter.unusedSimpArgs false
set_option linter.unusedVariables false
set_option linter.unusedSectionVars false
namespace Go.Proofs.YtpincjkjoeopkaaGreatDoor
open Go Go.Abs
set_option linter.unusedSimpArgs false
set_option linter.unusedVariables false

/-- the minutes of each name of the absences of an employee on a day -/
def misS (pl : List Sf) (emp day : Int) (l : List Ab) : List Ti := l.foldl (fun S a => if a.emp = emp ∧ a.day = day then addT a.name (abMin pl a) S else S) []
theorem misS_take {pl : List Sf} {emp day : Int} {l : List Ab} {i : Nat} (hi : i < l.length) : misS pl emp day (l.take (i + 1)) = if l[i].emp = emp ∧ l[i].day = day then addT l[i].name (abMin pl l[i]) (misS pl emp day (l.take i)) else misS pl emp day (l.take i) := by
  unfold misS
  rw [List.take_succ_eq_append_getElem hi, List.foldl_append]; rfl
theorem addT_len (nm : ByteArray) (mn : Int) : ∀ l : List Ti, (addT nm mn l).length ≤ l.length + 1
  | [] => by simp [addT]
  | y :: t => by
    have := addT_len nm mn t
    unfold addT
    split
    · simp; omega
    · split <;> simp
def posT (l : List Ti) : List Ti := l.filter fun x => decide (0 < x.m)

end Go.Proofs.YtpincjkjoeopkaaGreatDoor
