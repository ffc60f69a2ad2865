/- The calendar in plain words. -/
import Derived.Test.YtlanehcihoiglaaGreatDoorE3Gen
set_option linter.unusedSimpArgs false
set_option linter.unusedVariables false
set_option linter.unusedSectionVars false
namespace Go.Proofs.YtlanehcihoiglaaGreatDoor
open Go Go.Abs

def leapsP (y : Int) : Int := y / 4 - y / 100 + y / 400
def beginP (y : Int) : Int := 365 * (y - 1970) + leapsP (y - 1) - 477
def yearF : Nat → Int → Int → Int
  | 0, y, _ => y
  | k + 1, y, d => if beginP (y + 1) ≤ d then yearF k (y + 1) d else y
def yearP (d : Int) : Int := yearF 400 (1970 + d / 366) d
def sumL (y : Int) : Nat → Int
  | 0 => 0
  | k + 1 => sumL y k + lenP y (k + 1)
def numP (y m d : Int) : Int := beginP y + sumL y (m - 1).toNat + d - 1
def monF : Nat → Int → Int → Int → Int × Int
  | 0, _, m, r => (m, r)
  | k + 1, y, m, r => if lenP y m ≤ r then monF k y (m + 1) (r - lenP y m) else (m, r)

theorem lenP_bd {y m : Int} (h1 : 1 ≤ m) (h2 : m ≤ 12) : 28 ≤ lenP y m ∧ lenP y m ≤ 31 := by
  obtain rfl | rfl | rfl | rfl | rfl | rfl | rfl | rfl | rfl | rfl | rfl | rfl : m = 1 ∨ m = 2 ∨ m = 3 ∨ m = 4 ∨ m = 5 ∨ m = 6 ∨ m = 7 ∨ m = 8 ∨ m = 9 ∨ m = 10 ∨ m = 11 ∨ m = 12 := by omega
  all_goals simp [lenP, lensTab]
  split <;> omega
theorem sumL_12 (y : Int) : sumL y 12 = if leapP y = true then 366 else 365 := by
  simp only [sumL]
  simp only [lenP, lensTab]
  cases h : leapP y <;> simp
theorem leapP_iff {y : Int} : leapP y = true ↔ y % 4 = 0 ∧ (¬ y % 100 = 0 ∨ y % 400 = 0) := by
  simp only [leapP, Bool.and_eq_true, Bool.or_eq_true, Bool.not_eq_true', decide_eq_true_eq, decide_eq_false_iff_not]
theorem begin_succ (y : Int) : beginP (y + 1) = beginP y + sumL y 12 := by
  rw [sumL_12]
  simp only [beginP, leapsP]
  split
  · rename_i h; rw [leapP_iff] at h; omega
  · rename_i h; rw [leapP_iff] at h; omega
theorem begin_bd {y : Int} (h0 : 1970 ≤ y) (h1 : y ≤ 2300) : 365 * (y - 1970) ≤ beginP y ∧ beginP y ≤ 365 * (y - 1970) + (y - 1970) := by
  simp only [beginP, leapsP]
  omega
theorem yearF_ok : ∀ (k : Nat) (y d : Int), 1970 ≤ y → y + k ≥ 2250 → y ≤ 2240 → 0 ≤ d → d ≤ 90000 → beginP y ≤ d → beginP (yearF k y d) ≤ d ∧ d < beginP (yearF k y d + 1) ∧ 1970 ≤ yearF k y d ∧ yearF k y d ≤ 2240
  | 0, y, d, _, _, _, _, _, _ => by omega
  | k + 1, y, d, h1, h2, h3, h4, h5, h6 => by
    rw [yearF]
    split
    · rename_i h
      have hb := begin_bd (y := y + 1) (by omega) (by omega)
      exact yearF_ok k (y + 1) d (by omega) (by omega) (by omega) h4 h5 h
    · rename_i h
      exact ⟨h6, by omega, by omega, by omega⟩
theorem year_ok {d : Int} (h0 : 0 ≤ d) (h1 : d ≤ 90000) : beginP (yearP d) ≤ d ∧ d < beginP (yearP d + 1) ∧ 1970 ≤ yearP d ∧ yearP d ≤ 2240 := by
  have hb := begin_bd (y := 1970 + d / 366) (by omega) (by omega)
  exact yearF_ok 400 _ d (by omega) (by omega) (by omega) h0 h1 (by omega)
theorem year_max {d : Int} (h0 : 0 ≤ d) (h1 : d ≤ 84005) : yearP d ≤ 2199 := by
  obtain ⟨a, b, c, e⟩ := year_ok h0 (by omega)
  by_cases h : yearP d ≤ 2199
  · exact h
  · exfalso
    have : beginP 2200 ≤ beginP (yearP d) := by simp only [beginP, leapsP]; omega
    have e2 : beginP 2200 = 84006 := rfl
    omega
theorem sumL_mono (y : Int) : ∀ {a b : Nat}, a ≤ b → b ≤ 12 → sumL y a ≤ sumL y b
  | a, 0, h, _ => by obtain rfl : a = 0 := by omega
                     exact Int.le_refl _
  | a, b + 1, h, hb => by
    rcases Nat.lt_or_ge b a with h' | h'
    · obtain rfl : a = b + 1 := by omega
      exact Int.le_refl _
    · have ih := sumL_mono y h' (by omega)
      have hl := lenP_bd (y := y) (m := b + 1) (by omega) (by omega)
      rw [sumL]; omega
/-- the month and the rest of a day of a year -/
theorem monF_ok : ∀ (k : Nat) (y : Int) (m : Nat) (r : Int), 1 ≤ m → m ≤ 12 → 12 ≤ m + k → 0 ≤ r → r < sumL y 12 - sumL y (m - 1) →
    ∃ (m' : Nat) (r' : Int), monF k y m r = ((m' : Int), r') ∧ m ≤ m' ∧ m' ≤ 12 ∧ 0 ≤ r' ∧ r' < lenP y m' ∧ sumL y (m - 1) + r = sumL y (m' - 1) + r'
  | 0, y, m, r, h1, h2, h3, h4, h5 => by
    obtain rfl : m = 12 := by omega
    have : sumL y 12 = sumL y 11 + lenP y 12 := rfl
    exact ⟨12, r, rfl, by omega, by omega, h4, by simp at h5 ⊢; omega, rfl⟩
  | k + 1, y, m, r, h1, h2, h3, h4, h5 => by
    obtain ⟨j, rfl⟩ : ∃ j, m = j + 1 := ⟨m - 1, by omega⟩
    simp only [Nat.add_sub_cancel] at h5
    have hs : sumL y (j + 1) = sumL y j + lenP y ((j : Int) + 1) := rfl
    have hc : (((j + 1 : Nat) : Int)) = (j : Int) + 1 := by omega
    rw [monF, hc]
    split
    · rename_i h
      by_cases hj : j + 1 = 12
      · exfalso
        have hj' : j = 11 := by omega
        subst hj'
        have e12 : sumL y 12 = sumL y (11 + 1) := rfl
        omega
      · obtain ⟨m', r', e1, e2, e3, e4, e5, e6⟩ := monF_ok k y (j + 2) (r - lenP y ((j : Int) + 1)) (by omega) (by omega) (by omega) (by omega) (by simp only [Nat.add_sub_cancel, show j + 2 - 1 = j + 1 from rfl]; omega)
        refine ⟨m', r', ?_, by omega, e3, e4, e5, ?_⟩
        · rw [← e1]; congr 1
        · simp only [show j + 2 - 1 = j + 1 from rfl] at e6
          simp only [Nat.add_sub_cancel]
          omega
    · rename_i h
      refine ⟨j + 1, r, by rw [hc], by omega, h2, h4, by rw [hc]; omega, rfl⟩
def dateM (d : Int) : Int × Int := monF 12 (yearP d) 1 (d - beginP (yearP d))
theorem date_ok {d : Int} (h0 : 0 ≤ d) (h1 : d ≤ 90000) : ∃ (m : Nat) (r : Int), dateM d = ((m : Int), r) ∧ 1 ≤ m ∧ m ≤ 12 ∧ 0 ≤ r ∧ r < lenP (yearP d) m ∧ d = beginP (yearP d) + sumL (yearP d) (m - 1) + r := by
  obtain ⟨a, b, c, e⟩ := year_ok h0 h1
  rw [begin_succ] at b
  obtain ⟨m, r, h1, h2, h3, h4, h5, h6⟩ := monF_ok 12 (yearP d) 1 (d - beginP (yearP d)) (by omega) (by omega) (by omega) (by omega) (by show _ < sumL (yearP d) 12 - 0; omega)
  refine ⟨m, r, h1, by omega, h3, h4, h5, ?_⟩
  have h6' : 0 + (d - beginP (yearP d)) = sumL (yearP d) (m - 1) + r := h6
  omega

end Go.Proofs.YtlanehcihoiglaaGreatDoor
