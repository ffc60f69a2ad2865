/- Holidays in plain words: strictly ascending lists. -/
import Derived.Test.YtefemdpicjgkeaaDoorQ3Nam
set_option linter.unusedSimpArgs false
set_option linter.unusedVariables false
set_option linter.unusedSectionVars false
namespace Go.Proofs.YtefemdpicjgkeaaDoor
open Go Go.Abs

theorem srt_mem (zs : List Int) (x : Int) : x ∈ srt zs ↔ x ∈ zs := by unfold srt; exact List.mem_mergeSort
def uq (zs : List Int) : List Int := Lib.compact (srt zs)
def yr (l : List Hol) (y : Int) : List Int := l.filterMap fun h => namO h y
def uptoY (l : List Hol) (a : Int) (n : Nat) : List Int := (List.range n).flatMap fun (i : Nat) => yr l (a + (i : Int))
theorem uptoY_succ (l : List Hol) (a : Int) (n : Nat) : uptoY l a (n + 1) = uptoY l a n ++ yr l (a + n) := by
  unfold uptoY
  rw [List.range_succ, List.flatMap_append]
  simp
theorem yr_length (l : List Hol) (y : Int) : (yr l y).length ≤ l.length := List.length_filterMap_le _ _
theorem uptoY_length (l : List Hol) (a : Int) : ∀ n, (uptoY l a n).length ≤ n * l.length
  | 0 => by simp [uptoY]
  | n + 1 => by
    rw [uptoY_succ, List.length_append, Nat.add_mul, Nat.one_mul]
    have := uptoY_length l a n
    have := yr_length l (a + n)
    omega
def colP (l : List Hol) (a b : Int) : List Int := uq (uptoY l a (b + 1 - a).toNat)
/- the reference: a day is put into its place, unless it is there -/
end Go.Proofs.YtefemdpicjgkeaaDoor
