/- The calendar in plain words: a date is the only one of its day. -/
import Derived.Test.YtlanehcihoiglaaGreatDoorE3LEas
set_option linter.unusedSimpArgs false
set_option linter.unusedVariables false
set_option linter.unusedSectionVars false
namespace Go.Proofs.YtlanehcihoiglaaGreatDoor
open Go Go.Abs

theorem begin_mono {a b : Int} (h : a ≤ b) : beginP a ≤ beginP b := by
  simp only [beginP, leapsP]
  omega
theorem date_bounds {y : Int} {m : Nat} {r : Int} (h1 : 1 ≤ m) (h2 : m ≤ 12) (h3 : 0 ≤ r) (h4 : r < lenP y m) : beginP y ≤ beginP y + sumL y (m - 1) + r ∧ beginP y + sumL y (m - 1) + r < beginP (y + 1) := by
  obtain ⟨j, rfl⟩ : ∃ j, m = j + 1 := ⟨m - 1, by omega⟩
  have hs : sumL y (j + 1) = sumL y j + lenP y (((j + 1 : Nat) : Int)) := rfl
  have hm := sumL_mono y (a := j + 1) (b := 12) h2 (by omega)
  have hb := sumL_bd y j (by omega)
  rw [begin_succ]
  simp only [Nat.add_sub_cancel]
  omega
theorem date_okD {y : Int} {m : Nat} {r : Int} (y0 : 1970 ≤ y) (y1 : y ≤ 2199) (h1 : 1 ≤ m) (h2 : m ≤ 12) (h3 : 0 ≤ r) (h4 : r < lenP y m) : okD (beginP y + sumL y (m - 1) + r) := by
  obtain ⟨a, b⟩ := date_bounds h1 h2 h3 h4
  have c := begin_mono (a := 1970) (b := y) y0
  have d := begin_mono (a := y + 1) (b := 2200) (by omega)
  have e1 : beginP 1970 = 0 := rfl
  have e2 : beginP 2200 = 84006 := rfl
  exact ⟨by omega, by omega⟩
theorem date_unique {y : Int} {m : Nat} {r : Int} (y0 : 1970 ≤ y) (y1 : y ≤ 2199) (h1 : 1 ≤ m) (h2 : m ≤ 12) (h3 : 0 ≤ r) (h4 : r < lenP y m) :
    yearP (beginP y + sumL y (m - 1) + r) = y ∧ dateM (beginP y + sumL y (m - 1) + r) = ((m : Int), r) := by
  have hd := date_okD y0 y1 h1 h2 h3 h4
  obtain ⟨a, b⟩ := date_bounds h1 h2 h3 h4
  obtain ⟨d, hdd⟩ : ∃ d, d = beginP y + sumL y (m - 1) + r := ⟨_, rfl⟩
  rw [← hdd] at hd a b ⊢
  obtain ⟨c1, c2, c3, c4⟩ := year_ok (d := d) hd.1 (by have := hd.2; omega)
  have hy : yearP d = y := by
    rcases Int.lt_trichotomy (yearP d) y with h | h | h
    · have := begin_mono (a := yearP d + 1) (b := y) (by omega); omega
    · exact h
    · have := begin_mono (a := y + 1) (b := yearP d) (by omega); omega
  obtain ⟨m', r', e1, e2, e3, e4, e5, e6⟩ := date_ok (d := d) hd.1 (by have := hd.2; omega)
  rw [hy] at e5 e6
  refine ⟨hy, ?_⟩
  have key : ∀ {p q : Nat} {s t : Int}, 1 ≤ p → p < q → q ≤ 12 → s < lenP y p → 0 ≤ t → sumL y (p - 1) + s ≠ sumL y (q - 1) + t := by
    intro p q s t hp hpq hq hs ht heq
    obtain ⟨j, rfl⟩ : ∃ j, p = j + 1 := ⟨p - 1, by omega⟩
    have h5 : sumL y (j + 1) = sumL y j + lenP y (((j + 1 : Nat) : Int)) := rfl
    have h6 := sumL_mono y (a := j + 1) (b := q - 1) (by omega) (by omega)
    simp only [Nat.add_sub_cancel] at heq
    omega
  have hmm : m' = m := by
    rcases Nat.lt_trichotomy m' m with h | h | h
    · exact absurd (show sumL y (m' - 1) + r' = sumL y (m - 1) + r by omega) (key e2 h h2 e5 h3)
    · exact h
    · exact absurd (show sumL y (m - 1) + r = sumL y (m' - 1) + r' by omega) (key h1 h e3 h4 e4)
  subst hmm
  rw [e1, show r' = r by omega]
/-- the day r of a month -/
theorem month_day {k r : Int} (hk : okM k) (h0 : 0 ≤ r) (h1 : r < lengthP k) : okD (firstP k + r) ∧ monthP (firstP k + r) = k ∧ (dateM (firstP k + r)).2 = r := by
  unfold okM at hk
  rw [lengthP, if_pos (show okM k from hk)] at h1
  obtain ⟨j, hj⟩ : ∃ j : Nat, k % 12 = j := ⟨(k % 12).toNat, by omega⟩
  have hf : firstP k + r = beginP (1970 + k / 12) + sumL (1970 + k / 12) (j + 1 - 1) + r := by
    rw [firstP, numP, hj, show ((j : Int) + 1 - 1).toNat = j + 1 - 1 from by omega]; omega
  rw [hj] at h1
  have h1' : r < lenP (1970 + k / 12) ((j + 1 : Nat) : Int) := h1
  have hd := date_okD (y := 1970 + k / 12) (m := j + 1) (r := r) (by omega) (by omega) (by omega) (by omega) h0 h1'
  obtain ⟨a, b⟩ := date_unique (y := 1970 + k / 12) (m := j + 1) (r := r) (by omega) (by omega) (by omega) (by omega) h0 h1'
  rw [hf]
  refine ⟨hd, ?_, by rw [b]⟩
  rw [monthP, if_pos hd, a, b]
  simp only
  omega
theorem lengthP_pos {k : Int} (hk : okM k) : 28 ≤ lengthP k ∧ lengthP k ≤ 31 := by
  rw [lengthP, if_pos hk]
  unfold okM at hk
  exact lenP_bd (by omega) (by omega)
end Go.Proofs.YtlanehcihoiglaaGreatDoor
