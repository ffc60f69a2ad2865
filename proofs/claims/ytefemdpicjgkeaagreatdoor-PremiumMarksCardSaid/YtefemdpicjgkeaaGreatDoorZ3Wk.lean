/- Working days. -/
import Derived.Test.YtefemdpicjgkeaaGreatDoorZ3Col
set_option linter.unusedSimpArgs false
set_option linter.unusedVariables false
set_option linter.unusedSectionVars false
namespace Go.Proofs.YtefemdpicjgkeaaGreatDoor
open Go Go.Abs
open Go.RowKit (Below)
set_option linter.unusedSimpArgs false

theorem col_okD {l : List Hol} {a b d : Int} (h : d ∈ colP l a b) : 0 ≤ d ∧ d ≤ 84005 := by
  obtain ⟨y, _, _, h, _, hn⟩ := col_mem.1 h
  rw [namO, Option.filter_eq_some_iff] at hn
  have := of_decide_eq_true hn.2
  exact this
theorem colP_length (l : List Hol) (a b : Int) (hl : l.length ≤ 1024) (ha : 1970 ≤ a) (hb : b ≤ 2199) : (colP l a b).length ≤ 235520 := by
  unfold colP uq
  have h1 := compact_le (srt (uptoY l a (b + 1 - a).toNat))
  rw [srt_length] at h1
  have h2 := uptoY_length l a (b + 1 - a).toNat
  have h3 : (b + 1 - a).toNat * l.length ≤ 230 * 1024 := Nat.mul_le_mul (by omega) hl
  omega
end Go.Proofs.YtefemdpicjgkeaaGreatDoor
