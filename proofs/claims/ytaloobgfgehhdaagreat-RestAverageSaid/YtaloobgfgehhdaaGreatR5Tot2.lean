/- Overtime: the reference's minutes of each band of a day; made pieces; the example. -/
import Derived.Test.YtaloobgfgehhdaaGreatR5Tot
set_option linter.unusedSimpArgs false
set_option linter.unusedVariables false
set_option linter.unusedSectionVars false
namespace Go.Proofs.YtaloobgfgehhdaaGreat
open Go Go.Abs
set_option linter.unusedSimpArgs false
set_option linter.unusedVariables false

theorem idx_none {b : ByteArray} : ∀ {acc : List Tm}, (∀ j (h : j < acc.length), sEq acc[j].name b = false) → idxT b acc = none
  | [], _ => rfl
  | t :: ts, h => by
    have h0 := h 0 (by simp)
    simp only [List.getElem_cons_zero] at h0
    rw [idxT, if_neg (by simp [h0]), idx_none fun j hj => by have := h (j + 1) (by simpa using hj); simpa using this]
    rfl
theorem idx_some {b : ByteArray} : ∀ {acc : List Tm} {k : Nat} (hk : k < acc.length), (∀ j (h : j < k) (h2 : j < acc.length), sEq acc[j].name b = false) → sEq acc[k].name b = true → idxT b acc = some k
  | t :: ts, 0, _, _, h => by
    simp only [List.getElem_cons_zero] at h
    rw [idxT, if_pos h]
  | t :: ts, k + 1, hk, h, h2 => by
    have h0 := h 0 (by omega) (by simp)
    simp only [List.getElem_cons_zero] at h0
    rw [idxT, if_neg (by simp [h0]), idx_some (k := k) (by simpa using hk) (fun j hj hl => by have := h (j + 1) (by omega) (by simpa using hl); simpa using this) (by simpa using h2)]
    rfl

end Go.Proofs.YtaloobgfgehhdaaGreat
