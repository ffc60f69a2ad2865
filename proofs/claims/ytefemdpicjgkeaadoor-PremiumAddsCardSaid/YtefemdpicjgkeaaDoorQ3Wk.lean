/- Working days. -/
import Derived.Test.YtefemdpicjgkeaaDoorQ3Col
set_option linter.unusedSimpArgs false
set_option linter.unusedVariables false
set_option linter.unusedSectionVars false
namespace Go.Proofs.YtefemdpicjgkeaaDoor
open Go Go.Abs
open Go.RowKit (Below)
set_option linter.unusedSimpArgs false

theorem colP_length (l : List Hol) (a b : Int) (hl : l.length ≤ 1024) (ha : 1970 ≤ a) (hb : b ≤ 2199) : (colP l a b).length ≤ 235520 := by
  unfold colP uq
  have h1 := compact_le (srt (uptoY l a (b + 1 - a).toNat))
  rw [srt_length] at h1
  have h2 := uptoY_length l a (b + 1 - a).toNat
  have h3 : (b + 1 - a).toNat * l.length ≤ 230 * 1024 := Nat.mul_le_mul (by omega) hl
  omega
end Go.Proofs.YtefemdpicjgkeaaDoor
