/- The reference: mark. -/
import Derived.Test.YtpincjkjoeopkaaGreatDoorF9Lea
import Derived.Test.YtpincjkjoeopkaaGreatDoorAbsMg
set_option linter.unusedSimpArgs false
set_option linter.unusedVariables false
set_option linter.unusedSectionVars false
namespace Go.Proofs.YtpincjkjoeopkaaGreatDoor
open Go Go.Abs
set_option linter.unusedSimpArgs false
set_option linter.unusedVariables false

/-- a number put into its place -/
def insM (d : Int) : List Int → List Int
  | [] => [d]
  | x :: t => if x < d then x :: insM d t else if x = d then x :: t else d :: x :: t
theorem insM_mem {d y : Int} : ∀ {l : List Int}, y ∈ insM d l ↔ y = d ∨ y ∈ l
  | [] => by simp [insM]
  | x :: t => by
    have := insM_mem (d := d) (y := y) (l := t)
    unfold insM
    split
    · simp only [List.mem_cons, this]; exact or_left_comm
    · split
      · rename_i e; simp only [List.mem_cons, ← e]; exact or_self_left.symm
      · simp only [List.mem_cons]
theorem insM_sorted (d : Int) : ∀ {l : List Int}, l.Pairwise (· < ·) → (insM d l).Pairwise (· < ·)
  | [], _ => by simp [insM]
  | x :: t, h => by
    rw [List.pairwise_cons] at h
    unfold insM
    split
    · rw [List.pairwise_cons]
      refine ⟨fun z hz => ?_, insM_sorted d h.2⟩
      rcases insM_mem.1 hz with rfl | hz
      · assumption
      · exact h.1 z hz
    · split
      · exact List.pairwise_cons.2 h
      · rw [List.pairwise_cons, List.pairwise_cons]
        exact ⟨fun z hz => by rcases List.mem_cons.1 hz with rfl | hz; (· omega); have := h.1 z hz; omega, h⟩
theorem insM_length (d : Int) : ∀ l : List Int, (insM d l).length ≤ l.length + 1
  | [] => by simp [insM]
  | x :: t => by
    have := insM_length d t
    unfold insM
    split
    · simp; omega
    · split <;> simp

end Go.Proofs.YtpincjkjoeopkaaGreatDoor
