/- Working days in plain words: which years name a day, and that days are counted one by one. -/
import Derived.Test.YtefemdpicjgkeaaGreatDoorZ3Wk
import Derived.Test.YtefemdpicjgkeaaGreatDoorZ3Pl
set_option linter.unusedSimpArgs false
set_option linter.unusedVariables false
set_option linter.unusedSectionVars false
namespace Go.Proofs.YtefemdpicjgkeaaGreatDoor
open Go Go.Abs

theorem num_in {y m d : Int} (hm1 : 1 ≤ m) (hm2 : m ≤ 12) (h1 : 1 ≤ d) (h2 : d ≤ lenP y m) : beginP y ≤ numP y m d ∧ numP y m d < beginP (y + 1) := by
  obtain ⟨k, rfl⟩ : ∃ k : Nat, m = k := ⟨m.toNat, by omega⟩
  have := date_bounds (y := y) (m := k) (r := d - 1) (by omega) (by omega) (by omega) (by omega)
  unfold numP
  rw [show ((k : Int) - 1).toNat = k - 1 from by omega]
  omega
theorem begin_365 (y : Int) : beginP y + 365 ≤ beginP (y + 1) := by unfold beginP leapsP; omega
theorem mvP_bd (b : Bool) (d : Int) : d ≤ mvP b d ∧ mvP b d ≤ d + 2 := by
  unfold mvP
  have := wdP_bd d
  split <;> omega
theorem nthX_nn {y m w n : Int} (h : n = -1 ∨ 1 ≤ n ∧ n ≤ 5) (hl : 28 ≤ lenP y m) : 0 ≤ nthX y m w n := by
  have : 0 ≤ nthI y m w ∧ nthI y m w ≤ 6 := by unfold nthI; omega
  unfold nthX
  split <;> omega
theorem nmB_near {h : Hol} {y d : Int} (hr : ruleP h = true) (hy : okY y) (hn : nmB h y = some d) : beginP y - 100 ≤ d ∧ d < beginP (y + 1) + 100 := by
  obtain ⟨k, m, e, wd, o, b⟩ := h
  rw [ruleP_iff] at hr
  rcases hr with ⟨rfl, h1, h2, rfl, rfl, h3, h4⟩ | ⟨rfl, h1, h2, rfl, rfl, rfl⟩ | ⟨rfl, h1, h2, h3, h4, h5, h6, h7⟩
  · rw [nmB, if_pos rfl] at hn
    simp only at hn
    split at hn
    · rename_i hl
      simp only [Option.some.injEq] at hn
      have := num_in (y := y) h1 h2 h3 hl
      omega
    · cases hn
  · rw [nmB, if_neg (by simp), if_pos rfl] at hn
    simp only [Option.some.injEq] at hn
    have he := eas_day hy
    unfold dayP easD at he
    split at he
    · rename_i hc
      have := num_in (y := y) hc.2.2.1 hc.2.2.2.1 hc.2.2.2.2.1 hc.2.2.2.2.2
      unfold easD at hn
      omega
    · simp at he
  · rw [nmB, if_neg (by simp), if_neg (by simp)] at hn
    simp only at hn
    split at hn
    · rename_i hl
      simp only [Option.some.injEq] at hn
      have hL := lenP_bd (y := y) h1 h2
      have h0 := nthX_nn (y := y) (m := m) (w := wd) h3 hL.1
      have := num_in (y := y) (m := m) (d := 1 + nthX y m wd e) h1 h2 (by omega) (by omega)
      unfold numP at this hn
      omega
    · cases hn
theorem nam_near {h : Hol} {y d : Int} (hr : ruleP h = true) (hy : okY y) (hn : namO h y = some d) : okD d ∧ y - 1 ≤ yearP d ∧ yearP d ≤ y + 1 := by
  rw [namO, Option.filter_eq_some_iff] at hn
  obtain ⟨hn, hd⟩ := hn
  have hd : okD d := of_decide_eq_true hd
  rw [nmD, Option.map_eq_some_iff] at hn
  obtain ⟨x, hx, rfl⟩ := hn
  have h1 := nmB_near hr hy hx
  have h2 := mvP_bd h.moved x
  generalize mvP h.moved x = d at *
  have h3 := year_ok (d := d) hd.1 (by have := hd.2; omega)
  have e1 := begin_365 (y - 1)
  have e2 := begin_365 (y + 1)
  rw [show y - 1 + 1 = y from by omega] at e1
  refine ⟨hd, ?_, ?_⟩
  · rcases Int.lt_or_le (yearP d) (y - 1) with hlt | hge
    · have := begin_mono (a := yearP d + 1) (b := y - 1) (by omega); omega
    · exact hge
  · rcases Int.lt_or_le (y + 1) (yearP d) with hlt | hge
    · have := begin_mono (a := y + 1 + 1) (b := yearP d) (by omega); omega
    · exact hge

/-- all holidays -/
def allH (l : List Hol) : List Int := colP l 1970 2199
end Go.Proofs.YtefemdpicjgkeaaGreatDoor
