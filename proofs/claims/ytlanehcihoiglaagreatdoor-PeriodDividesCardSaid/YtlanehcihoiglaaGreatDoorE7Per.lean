/- Pay calendars: the periods of days, the days of periods. -/
import Derived.Test.YtlanehcihoiglaaGreatDoorE3Wk
import Derived.Test.YtlanehcihoiglaaGreatDoorE3WPl
set_option linter.unusedSimpArgs false
set_option linter.unusedVariables false
set_option linter.unusedSectionVars false
namespace Go.Proofs.YtlanehcihoiglaaGreatDoor
open Go Go.Abs
set_option linter.unusedSimpArgs false
set_option linter.unusedVariables false

def calE (k a : Int) : Int := if k = 0 ∨ k = 1 then (if a = 0 then 0 else 2) else if k = 2 then (if 0 ≤ a ∧ a ≤ 13 then 0 else 2) else if k = 3 then (if 0 ≤ a ∧ a ≤ 6 then 0 else 2) else 2
def lenC (k : Int) : Int := if k = 2 then 14 else 7
def misC (k a : Int) : Int := (lenC k - a) % lenC k
def ofP (k a d : Int) : Int := if k = 0 then monthP d else if k = 1 then 2 * monthP d + (if 14 < (dateM d).2 then 1 else 0) else (d + misC k a) / lenC k
def cntP (k a : Int) : Int := if calE k a = 0 then ofP k a 84005 + 1 else 0
def spP (k a n : Int) : Int × Int :=
  if k = 0 then (firstP n, firstP n + lengthP n - 1)
  else if k = 1 then (if n % 2 = 0 then (firstP (n / 2), firstP (n / 2) + 14) else (firstP (n / 2) + 15, firstP (n / 2) + lengthP (n / 2) - 1))
  else (max (n * lenC k - misC k a) 0, min (n * lenC k - misC k a + lenC k - 1) 84005)
theorem calE_kind {k a : Int} (h : calE k a = 0) : (k = 0 ∧ a = 0) ∨ (k = 1 ∧ a = 0) ∨ (k = 2 ∧ 0 ≤ a ∧ a ≤ 13) ∨ (k = 3 ∧ 0 ≤ a ∧ a ≤ 6) := by
  unfold calE at h
  split at h
  · split at h <;> omega
  · split at h
    · split at h <;> omega
    · split at h
      · split at h <;> omega
      · omega

theorem pvalid_ok (k a : Int) : AFn Tryz.prog 45 [.agg [.int .i64 k, .int .i64 a]] [] (fun v rs => v = .int .i64 (calE k a) ∧ rs = []) := by
  refine afn Tryz.func45 a45_ok (by simp [a45]) ?_
  unfold calE
  have b : ∀ (z : Int), (k == z) = decide (k = z) := fun z => rfl
  by_cases h0 : k = 0
  · subst h0
    rw [if_pos (by omega)]
    simp only [go_sem,a45,a45r0,a45r1,a45r2,a45r3,a45r4,a45r5,a45r6,a45r7,a45r8,a45r9,a45r10,a45r11,a45r12]
    repeat' (first | (refine grdC_intro ?_ ?_ <;> intro hg <;> (have hp := hg; try simp only [decide_eq_true_eq,decide_eq_false_iff_not,beq_iff_eq,beq_eq_false_iff_ne,bne_iff_ne,bne_eq_false_iff_eq,Bool.not_eq_true',Bool.not_eq_false',Int.not_lt,Int.not_le,ne_eq,Bool.and_eq_true,Bool.or_eq_true,Bool.or_eq_false_iff,Bool.and_eq_false_iff] at hp) <;> (first | omega | (simp only [go_sem,hg,a45,a45r0,a45r1,a45r2,a45r3,a45r4,a45r5,a45r6,a45r7,a45r8,a45r9,a45r10,a45r11,a45r12]; clear hg))) | (refine grdD_intro ?_ ?_ <;> intro hg <;> (have hp := hg; try simp only [decide_eq_true_eq,decide_eq_false_iff_not,beq_iff_eq,beq_eq_false_iff_ne,bne_iff_ne,bne_eq_false_iff_eq,Bool.not_eq_true',Bool.not_eq_false',Int.not_lt,Int.not_le,ne_eq,Bool.and_eq_true,Bool.or_eq_true,Bool.or_eq_false_iff,Bool.and_eq_false_iff] at hp) <;> (first | omega | (simp only [go_sem,hg,a45,a45r0,a45r1,a45r2,a45r3,a45r4,a45r5,a45r6,a45r7,a45r8,a45r9,a45r10,a45r11,a45r12]; clear hg))) | (refine condC_intro ?_ ?_ <;> intro hg <;> (have hp := hg; try simp only [decide_eq_true_eq,decide_eq_false_iff_not,beq_iff_eq,beq_eq_false_iff_ne,bne_iff_ne,bne_eq_false_iff_eq,Bool.not_eq_true',Bool.not_eq_false',Int.not_lt,Int.not_le,ne_eq,Bool.and_eq_true,Bool.or_eq_true,Bool.or_eq_false_iff,Bool.and_eq_false_iff] at hp) <;> (first | omega | (simp only [go_sem,hg,a45,a45r0,a45r1,a45r2,a45r3,a45r4,a45r5,a45r6,a45r7,a45r8,a45r9,a45r10,a45r11,a45r12]; clear hg))) | (refine condW_intro ?_ ?_ <;> intro hg <;> (have hp := hg; try simp only [decide_eq_true_eq,decide_eq_false_iff_not,beq_iff_eq,beq_eq_false_iff_ne,bne_iff_ne,bne_eq_false_iff_eq,Bool.not_eq_true',Bool.not_eq_false',Int.not_lt,Int.not_le,ne_eq,Bool.and_eq_true,Bool.or_eq_true,Bool.or_eq_false_iff,Bool.and_eq_false_iff] at hp) <;> (first | omega | (simp only [go_sem,hg,a45,a45r0,a45r1,a45r2,a45r3,a45r4,a45r5,a45r6,a45r7,a45r8,a45r9,a45r10,a45r11,a45r12]; clear hg))))
    all_goals (refine Cl.fin rfl ⟨?_, rfl⟩; (first | rw [if_pos (by omega)] | rw [if_neg (by omega)]))
  by_cases h1 : k = 1
  · subst h1
    rw [if_pos (by omega)]
    simp only [go_sem,a45,a45r0,a45r1,a45r2,a45r3,a45r4,a45r5,a45r6,a45r7,a45r8,a45r9,a45r10,a45r11,a45r12]
    repeat' (first | (refine grdC_intro ?_ ?_ <;> intro hg <;> (have hp := hg; try simp only [decide_eq_true_eq,decide_eq_false_iff_not,beq_iff_eq,beq_eq_false_iff_ne,bne_iff_ne,bne_eq_false_iff_eq,Bool.not_eq_true',Bool.not_eq_false',Int.not_lt,Int.not_le,ne_eq,Bool.and_eq_true,Bool.or_eq_true,Bool.or_eq_false_iff,Bool.and_eq_false_iff] at hp) <;> (first | omega | (simp only [go_sem,hg,a45,a45r0,a45r1,a45r2,a45r3,a45r4,a45r5,a45r6,a45r7,a45r8,a45r9,a45r10,a45r11,a45r12]; clear hg))) | (refine grdD_intro ?_ ?_ <;> intro hg <;> (have hp := hg; try simp only [decide_eq_true_eq,decide_eq_false_iff_not,beq_iff_eq,beq_eq_false_iff_ne,bne_iff_ne,bne_eq_false_iff_eq,Bool.not_eq_true',Bool.not_eq_false',Int.not_lt,Int.not_le,ne_eq,Bool.and_eq_true,Bool.or_eq_true,Bool.or_eq_false_iff,Bool.and_eq_false_iff] at hp) <;> (first | omega | (simp only [go_sem,hg,a45,a45r0,a45r1,a45r2,a45r3,a45r4,a45r5,a45r6,a45r7,a45r8,a45r9,a45r10,a45r11,a45r12]; clear hg))) | (refine condC_intro ?_ ?_ <;> intro hg <;> (have hp := hg; try simp only [decide_eq_true_eq,decide_eq_false_iff_not,beq_iff_eq,beq_eq_false_iff_ne,bne_iff_ne,bne_eq_false_iff_eq,Bool.not_eq_true',Bool.not_eq_false',Int.not_lt,Int.not_le,ne_eq,Bool.and_eq_true,Bool.or_eq_true,Bool.or_eq_false_iff,Bool.and_eq_false_iff] at hp) <;> (first | omega | (simp only [go_sem,hg,a45,a45r0,a45r1,a45r2,a45r3,a45r4,a45r5,a45r6,a45r7,a45r8,a45r9,a45r10,a45r11,a45r12]; clear hg))) | (refine condW_intro ?_ ?_ <;> intro hg <;> (have hp := hg; try simp only [decide_eq_true_eq,decide_eq_false_iff_not,beq_iff_eq,beq_eq_false_iff_ne,bne_iff_ne,bne_eq_false_iff_eq,Bool.not_eq_true',Bool.not_eq_false',Int.not_lt,Int.not_le,ne_eq,Bool.and_eq_true,Bool.or_eq_true,Bool.or_eq_false_iff,Bool.and_eq_false_iff] at hp) <;> (first | omega | (simp only [go_sem,hg,a45,a45r0,a45r1,a45r2,a45r3,a45r4,a45r5,a45r6,a45r7,a45r8,a45r9,a45r10,a45r11,a45r12]; clear hg))))
    all_goals (refine Cl.fin rfl ⟨?_, rfl⟩; (first | rw [if_pos (by omega)] | rw [if_neg (by omega)]))
  rw [if_neg (by omega)]
  by_cases h2 : k = 2
  · subst h2
    rw [if_pos rfl]
    simp only [go_sem,a45,a45r0,a45r1,a45r2,a45r3,a45r4,a45r5,a45r6,a45r7,a45r8,a45r9,a45r10,a45r11,a45r12]
    repeat' (first | (refine grdC_intro ?_ ?_ <;> intro hg <;> (have hp := hg; try simp only [decide_eq_true_eq,decide_eq_false_iff_not,beq_iff_eq,beq_eq_false_iff_ne,bne_iff_ne,bne_eq_false_iff_eq,Bool.not_eq_true',Bool.not_eq_false',Int.not_lt,Int.not_le,ne_eq,Bool.and_eq_true,Bool.or_eq_true,Bool.or_eq_false_iff,Bool.and_eq_false_iff] at hp) <;> (first | omega | (simp only [go_sem,hg,a45,a45r0,a45r1,a45r2,a45r3,a45r4,a45r5,a45r6,a45r7,a45r8,a45r9,a45r10,a45r11,a45r12]; clear hg))) | (refine grdD_intro ?_ ?_ <;> intro hg <;> (have hp := hg; try simp only [decide_eq_true_eq,decide_eq_false_iff_not,beq_iff_eq,beq_eq_false_iff_ne,bne_iff_ne,bne_eq_false_iff_eq,Bool.not_eq_true',Bool.not_eq_false',Int.not_lt,Int.not_le,ne_eq,Bool.and_eq_true,Bool.or_eq_true,Bool.or_eq_false_iff,Bool.and_eq_false_iff] at hp) <;> (first | omega | (simp only [go_sem,hg,a45,a45r0,a45r1,a45r2,a45r3,a45r4,a45r5,a45r6,a45r7,a45r8,a45r9,a45r10,a45r11,a45r12]; clear hg))) | (refine condC_intro ?_ ?_ <;> intro hg <;> (have hp := hg; try simp only [decide_eq_true_eq,decide_eq_false_iff_not,beq_iff_eq,beq_eq_false_iff_ne,bne_iff_ne,bne_eq_false_iff_eq,Bool.not_eq_true',Bool.not_eq_false',Int.not_lt,Int.not_le,ne_eq,Bool.and_eq_true,Bool.or_eq_true,Bool.or_eq_false_iff,Bool.and_eq_false_iff] at hp) <;> (first | omega | (simp only [go_sem,hg,a45,a45r0,a45r1,a45r2,a45r3,a45r4,a45r5,a45r6,a45r7,a45r8,a45r9,a45r10,a45r11,a45r12]; clear hg))) | (refine condW_intro ?_ ?_ <;> intro hg <;> (have hp := hg; try simp only [decide_eq_true_eq,decide_eq_false_iff_not,beq_iff_eq,beq_eq_false_iff_ne,bne_iff_ne,bne_eq_false_iff_eq,Bool.not_eq_true',Bool.not_eq_false',Int.not_lt,Int.not_le,ne_eq,Bool.and_eq_true,Bool.or_eq_true,Bool.or_eq_false_iff,Bool.and_eq_false_iff] at hp) <;> (first | omega | (simp only [go_sem,hg,a45,a45r0,a45r1,a45r2,a45r3,a45r4,a45r5,a45r6,a45r7,a45r8,a45r9,a45r10,a45r11,a45r12]; clear hg))))
    all_goals (refine Cl.fin rfl ⟨?_, rfl⟩; (first | rw [if_pos (by omega)] | rw [if_neg (by omega)]))
  rw [if_neg h2]
  by_cases h3 : k = 3
  · subst h3
    rw [if_pos rfl]
    simp only [go_sem,a45,a45r0,a45r1,a45r2,a45r3,a45r4,a45r5,a45r6,a45r7,a45r8,a45r9,a45r10,a45r11,a45r12]
    repeat' (first | (refine grdC_intro ?_ ?_ <;> intro hg <;> (have hp := hg; try simp only [decide_eq_true_eq,decide_eq_false_iff_not,beq_iff_eq,beq_eq_false_iff_ne,bne_iff_ne,bne_eq_false_iff_eq,Bool.not_eq_true',Bool.not_eq_false',Int.not_lt,Int.not_le,ne_eq,Bool.and_eq_true,Bool.or_eq_true,Bool.or_eq_false_iff,Bool.and_eq_false_iff] at hp) <;> (first | omega | (simp only [go_sem,hg,a45,a45r0,a45r1,a45r2,a45r3,a45r4,a45r5,a45r6,a45r7,a45r8,a45r9,a45r10,a45r11,a45r12]; clear hg))) | (refine grdD_intro ?_ ?_ <;> intro hg <;> (have hp := hg; try simp only [decide_eq_true_eq,decide_eq_false_iff_not,beq_iff_eq,beq_eq_false_iff_ne,bne_iff_ne,bne_eq_false_iff_eq,Bool.not_eq_true',Bool.not_eq_false',Int.not_lt,Int.not_le,ne_eq,Bool.and_eq_true,Bool.or_eq_true,Bool.or_eq_false_iff,Bool.and_eq_false_iff] at hp) <;> (first | omega | (simp only [go_sem,hg,a45,a45r0,a45r1,a45r2,a45r3,a45r4,a45r5,a45r6,a45r7,a45r8,a45r9,a45r10,a45r11,a45r12]; clear hg))) | (refine condC_intro ?_ ?_ <;> intro hg <;> (have hp := hg; try simp only [decide_eq_true_eq,decide_eq_false_iff_not,beq_iff_eq,beq_eq_false_iff_ne,bne_iff_ne,bne_eq_false_iff_eq,Bool.not_eq_true',Bool.not_eq_false',Int.not_lt,Int.not_le,ne_eq,Bool.and_eq_true,Bool.or_eq_true,Bool.or_eq_false_iff,Bool.and_eq_false_iff] at hp) <;> (first | omega | (simp only [go_sem,hg,a45,a45r0,a45r1,a45r2,a45r3,a45r4,a45r5,a45r6,a45r7,a45r8,a45r9,a45r10,a45r11,a45r12]; clear hg))) | (refine condW_intro ?_ ?_ <;> intro hg <;> (have hp := hg; try simp only [decide_eq_true_eq,decide_eq_false_iff_not,beq_iff_eq,beq_eq_false_iff_ne,bne_iff_ne,bne_eq_false_iff_eq,Bool.not_eq_true',Bool.not_eq_false',Int.not_lt,Int.not_le,ne_eq,Bool.and_eq_true,Bool.or_eq_true,Bool.or_eq_false_iff,Bool.and_eq_false_iff] at hp) <;> (first | omega | (simp only [go_sem,hg,a45,a45r0,a45r1,a45r2,a45r3,a45r4,a45r5,a45r6,a45r7,a45r8,a45r9,a45r10,a45r11,a45r12]; clear hg))))
    all_goals (refine Cl.fin rfl ⟨?_, rfl⟩; (first | rw [if_pos (by omega)] | rw [if_neg (by omega)]))
  rw [if_neg h3]
  have e0 : (k == 0) = false := by simp [h0]
  have e1 : (k == 1) = false := by simp [h1]
  have e2 : (k == 2) = false := by simp [h2]
  have e3 : (k == 3) = false := by simp [h3]
  simp only [go_sem,a45,a45r0,a45r1,a45r2,a45r3,a45r4,a45r5,a45r6,a45r7,a45r8,a45r9,a45r10,a45r11,a45r12,e0,e1,e2,e3]
  exact Cl.fin rfl ⟨rfl, rfl⟩

theorem weeks_ok (k a : Int) (h : calE k a = 0) : AFn Tryz.prog 47 [.agg [.int .i64 k, .int .i64 a]] [] (fun v rs => v = .tup [.int .i64 (lenC k), .int .i64 (misC k a)] ∧ rs = []) := by
  refine afn Tryz.func47 a47_ok (by simp [a47]) ?_
  have hk := calE_kind h
  unfold misC lenC
  by_cases h2 : k = 2
  · subst h2
    rw [if_pos rfl]
    simp only [go_sem,a47,a47r0,a47r1,a47r2,a47r3,a47r4]
    rw [wrap_i64 (x := 14 - a) (by omega) (by omega), Int.tmod_eq_emod_of_nonneg (by omega)]
    refine ⟨by decide, ?_⟩
    exact Cl.fin rfl ⟨rfl, rfl⟩
  · rw [if_neg h2]
    have e2 : (k == 2) = false := by simp [h2]
    simp only [go_sem,a47,a47r0,a47r1,a47r2,a47r3,a47r4,e2]
    rw [wrap_i64 (x := 7 - a) (by omega) (by omega), Int.tmod_eq_emod_of_nonneg (by omega)]
    refine ⟨by decide, ?_⟩
    exact Cl.fin rfl ⟨rfl, rfl⟩

theorem mon_bd {d : Int} (h : okD d) : 0 ≤ monthP d ∧ monthP d ≤ 2759 ∧ 0 ≤ (dateM d).2 ∧ (dateM d).2 ≤ 30 ∧ okM (monthP d) ∧ firstP (monthP d) + (dateM d).2 = d ∧ (dateM d).2 < lengthP (monthP d) := by
  obtain ⟨m, r, e1, e2, e3, e4, e5, e6⟩ := date_ok (d := d) h.1 (by have := h.2; omega)
  obtain ⟨_, _, c3, _⟩ := year_ok (d := d) h.1 (by have := h.2; omega)
  have c4 := year_max h.1 h.2
  have hl := lenP_bd (y := yearP d) (m := m) (by omega) (by omega)
  have hm : monthP d = (yearP d - 1970) * 12 + m - 1 := by rw [monthP, if_pos h, e1]
  have hy : 1970 + monthP d / 12 = yearP d := by omega
  have hmm : monthP d % 12 + 1 = m := by omega
  have hok : okM (monthP d) := ⟨by omega, by omega⟩
  rw [e1]
  simp only
  refine ⟨by omega, by omega, e4, by omega, hok, ?_, ?_⟩
  · rw [firstP, hy, hmm, numP, show ((m : Int) - 1).toNat = m - 1 from by omega]
    omega
  · rw [lengthP, if_pos hok, hy, hmm]
    exact e5

theorem of1_ok (k a d : Int) (h : calE k a = 0) (hd : okD d) : AFn Tryz.prog 48 [.agg [.int .i64 k, .int .i64 a], .int .i64 d] [] (fun v rs => v = .int .i64 (ofP k a d) ∧ rs = []) := by
  refine afn Tryz.func48 a48_ok (by simp [a48]) ?_
  have hk := calE_kind h
  have hm := mon_bd hd
  have hd1 := hd.1
  have hd2 := hd.2
  unfold ofP
  by_cases h0 : k = 0
  · subst h0
    rw [if_pos rfl]
    simp only [go_sem,a48,a48r0,a48r1,a48r2,a48r3,a48r4,a48r5,a48r6,a48r7,a48r8,a48r9,a48r10,a48r11]
    refine callC_det (Month_ok d) rfl rfl ?_
    simp only [go_sem]
    exact Cl.fin rfl ⟨rfl, rfl⟩
  rw [if_neg h0]
  have e0 : (k == 0) = false := by simp [h0]
  by_cases h1 : k = 1
  · subst h1
    rw [if_pos rfl]
    have hD := date_okc d
    rw [if_pos hd] at hD
    simp only [go_sem,a48,a48r0,a48r1,a48r2,a48r3,a48r4,a48r5,a48r6,a48r7,a48r8,a48r9,a48r10,a48r11]
    refine callC_det (Month_ok d) rfl rfl ?_
    simp only [go_sem]
    refine callC_det hD rfl rfl ?_
    simp only [go_sem]
    rw [wrap_i64 (x := 2 * monthP d) (by omega) (by omega)]
    by_cases hg : (dateM d).2 + 1 > 15
    · rw [if_pos (by omega)]
      simp only [go_sem,hg]
      rw [wrap_i64 (x := 2 * monthP d + 1) (by omega) (by omega)]
      exact Cl.fin rfl ⟨rfl, rfl⟩
    · rw [if_neg (by omega)]
      simp only [go_sem,hg]
      exact Cl.fin rfl ⟨by rw [Int.add_zero], rfl⟩
  rw [if_neg h1]
  have e1 : (k == 1) = false := by simp [h1]
  have hl : lenC k = 14 ∨ lenC k = 7 := by unfold lenC; split <;> simp
  have hmi : 0 ≤ misC k a ∧ misC k a < lenC k := ⟨Int.emod_nonneg _ (by omega), Int.emod_lt_of_pos _ (by omega)⟩
  simp only [go_sem,a48,a48r0,a48r1,a48r2,a48r3,a48r4,a48r5,a48r6,a48r7,a48r8,a48r9,a48r10,a48r11,e0,e1]
  refine callC_det (weeks_ok k a h) rfl rfl ?_
  simp only [go_sem]
  rw [wrap_i64 (x := d + misC k a) (by omega) (by omega), Int.tdiv_eq_ediv_of_nonneg (by omega)]
  have hdiv : 0 ≤ (d + misC k a) / lenC k ∧ (d + misC k a) / lenC k ≤ 84020 := by
    rcases hl with h | h <;> (have h9 := hmi; rw [h] at h9 ⊢; omega)
  rw [wrap_i64 (by omega) (by omega)]
  refine ⟨by omega, ?_⟩
  exact Cl.fin rfl ⟨rfl, rfl⟩

theorem Of_ok (k a d : Int) : AFn Tryz.prog 29 [.agg [.int .i64 k, .int .i64 a], .int .i64 d] []
    (fun v rs => v = (if calE k a ≠ 0 then .tup [.int .i64 0, .int .i64 (calE k a)] else if okD d then .tup [.int .i64 (ofP k a d), .int .i64 0] else .tup [.int .i64 0, .int .i64 2]) ∧ rs = []) := by
  refine afn Tryz.func29 a29_ok (by simp [a29]) ?_
  simp only [go_sem,a29,a29r0,a29r1,a29r2,a29r3,a29r4,a29r5,a29r6]
  refine callC_det (pvalid_ok k a) rfl rfl ?_
  simp only [go_sem]
  by_cases h : calE k a = 0
  rotate_left
  · have hb : (calE k a != 0) = true := by simp [h]
    rw [if_pos h]
    simp only [go_sem,hb]
    exact Cl.fin rfl ⟨rfl, rfl⟩
  have hb : (calE k a != 0) = false := by simp [h]
  rw [if_neg (fun e => e h)]
  by_cases h1 : d < 0
  · rw [if_neg (fun e => by have := e.1; omega)]
    simp only [go_sem,hb,h1]
    exact Cl.fin rfl ⟨rfl, rfl⟩
  by_cases h2 : d > 84005
  · rw [if_neg (fun e => by have := e.2; omega)]
    simp only [go_sem,hb,h1,h2]
    exact Cl.fin rfl ⟨rfl, rfl⟩
  have hd : okD d := ⟨by omega, by omega⟩
  rw [if_pos hd]
  simp only [go_sem,hb,h1,h2]
  refine callC_det (of1_ok k a d h hd) rfl rfl ?_
  simp only [go_sem]
  exact Cl.fin rfl ⟨rfl, rfl⟩
theorem maxD : okD 84005 := ⟨by omega, by omega⟩
theorem ofP_bd {k a d : Int} (h : calE k a = 0) (hd : okD d) : 0 ≤ ofP k a d ∧ ofP k a d ≤ 84020 := by
  have hm := mon_bd hd
  have h1 := hd.1
  have h2 := hd.2
  have hk := calE_kind h
  unfold ofP
  split
  · omega
  split
  · split <;> omega
  unfold misC lenC
  split <;> omega
theorem Count_ok (k a : Int) : AFn Tryz.prog 30 [.agg [.int .i64 k, .int .i64 a]] [] (fun v rs => v = .int .i64 (cntP k a) ∧ rs = []) := by
  refine afn Tryz.func30 a30_ok (by simp [a30]) ?_
  unfold cntP
  simp only [go_sem,a30,a30r0,a30r1,a30r2,a30r3]
  refine callC_det (pvalid_ok k a) rfl rfl ?_
  by_cases h : calE k a = 0
  rotate_left
  · have hb : (calE k a != 0) = true := by simp [h]
    rw [if_neg h]
    simp only [go_sem,hb]
    exact Cl.fin rfl ⟨rfl, rfl⟩
  have hb : (calE k a != 0) = false := by simp [h]
  rw [if_pos h]
  have hbd := ofP_bd h maxD
  simp only [go_sem,hb]
  refine callC_det (of1_ok k a 84005 h maxD) rfl rfl ?_
  simp only [go_sem]
  rw [wrap_i64 (x := ofP k a 84005 + 1) (by omega) (by omega)]
  exact Cl.fin rfl ⟨rfl, rfl⟩
theorem first_bd {m : Int} (h : okM m) : 0 ≤ firstP m ∧ firstP m + lengthP m - 1 ≤ 84005 ∧ 28 ≤ lengthP m ∧ lengthP m ≤ 31 := by
  have hl := lengthP_pos h
  have h1 := month_day (r := 0) h (by omega) (by omega)
  have h2 := month_day (r := lengthP m - 1) h (by omega) (by omega)
  have h3 := h1.1.1
  have h4 := h2.1.2
  omega
theorem month_ok (m : Int) (h : okM m) : AFn Tryz.prog 46 [.int .i64 m] [] (fun v rs => v = .agg [.int .i64 (firstP m), .int .i64 (firstP m + lengthP m - 1)] ∧ rs = []) := by
  refine afn Tryz.func46 a46_ok (by simp [a46]) ?_
  have hb := first_bd h
  have hF := First_ok m
  rw [if_pos h] at hF
  simp only [go_sem,a46,a46r0,a46r1,a46r2]
  refine callC_det hF rfl rfl ?_
  simp only [go_sem]
  refine callC_det (Length_ok m) rfl rfl ?_
  simp only [go_sem]
  rw [wrap_i64 (x := firstP m + lengthP m) (by omega) (by omega), wrap_i64 (x := firstP m + lengthP m - 1) (by omega) (by omega)]
  exact Cl.fin rfl ⟨rfl, rfl⟩
theorem max_month : monthP 84005 = 2759 := by kernel_rfl
theorem max_date : (dateM 84005).2 = 30 := by kernel_rfl
/-- the periods of a calendar -/
theorem cnt_kind {k a : Int} (h : calE k a = 0) : cntP k a = if k = 0 then 2760 else if k = 1 then 5520 else (84005 + misC k a) / lenC k + 1 := by
  rw [cntP, if_pos h, ofP, max_month, max_date]
  split
  · rfl
  · split <;> rfl
set_option maxHeartbeats 1000000 in
theorem Span_ok (k a n : Int) (hn : -9223372036854775808 ≤ n) (hn2 : n ≤ 9223372036854775807) : AFn Tryz.prog 28 [.agg [.int .i64 k, .int .i64 a], .int .i64 n] []
    (fun v rs => v = (if calE k a ≠ 0 then .tup [.agg [.int .i64 0, .int .i64 0], .int .i64 (calE k a)] else if 0 ≤ n ∧ n < cntP k a then .tup [.agg [.int .i64 (spP k a n).1, .int .i64 (spP k a n).2], .int .i64 0] else .tup [.agg [.int .i64 0, .int .i64 0], .int .i64 2]) ∧ rs = []) := by
  refine afn Tryz.func28 a28_ok (by simp [a28]) ?_
  simp only [go_sem,a28,a28r0,a28r1,a28r2,a28r3,a28r4,a28r5,a28r6,a28r7,a28r8,a28r9,a28r10,a28r11,a28r12,a28r13,a28r14,a28r15,a28r16,a28r17]
  refine callC_det (pvalid_ok k a) rfl rfl ?_
  simp only [go_sem]
  by_cases h : calE k a = 0
  rotate_left
  · have hb : (calE k a != 0) = true := by simp [h]
    rw [if_pos h]
    simp only [go_sem,hb]
    exact Cl.fin rfl ⟨rfl, rfl⟩
  have hb : (calE k a != 0) = false := by simp [h]
  rw [if_neg (fun e => e h)]
  have hk := calE_kind h
  have hc := cnt_kind h
  by_cases h1 : n < 0
  · rw [if_neg (fun e => by have := e.1; omega)]
    simp only [go_sem,hb,h1]
    exact Cl.fin rfl ⟨rfl, rfl⟩
  simp only [go_sem,hb,h1]
  refine callC_det (Count_ok k a) rfl rfl ?_
  simp only [go_sem]
  by_cases h2 : n ≥ cntP k a
  · rw [if_neg (fun e => by have := e.2; omega)]
    simp only [go_sem,h2]
    exact Cl.fin rfl ⟨rfl, rfl⟩
  rw [if_pos ⟨by omega, by omega⟩]
  simp only [go_sem,h2]
  unfold spP
  by_cases h0 : k = 0
  · subst h0
    rw [if_pos rfl] at hc
    have hM : okM n := ⟨by omega, by omega⟩
    simp only [go_sem]
    refine callC_det (month_ok n hM) rfl rfl ?_
    simp only [go_sem]
    exact Cl.fin rfl ⟨rfl, rfl⟩
  rw [if_neg h0] at hc
  have e0 : (k == 0) = false := by simp [h0]
  by_cases h3 : k = 1
  · subst h3
    rw [if_pos rfl] at hc
    have hM : okM (n / 2) := ⟨by omega, by omega⟩
    have hb := first_bd hM
    have hdv : n.tdiv 2 = n / 2 := Int.tdiv_eq_ediv_of_nonneg (by omega)
    have hmd : n.tmod 2 = n % 2 := Int.tmod_eq_emod_of_nonneg (by omega)
    simp only [go_sem,hdv,hmd]
    rw [wrap_i64 (x := n / 2) (by omega) (by omega)]
    refine ⟨by decide, ?_⟩
    refine callC_det (month_ok (n / 2) hM) rfl rfl ?_
    simp only [go_sem]
    refine ⟨by decide, ?_⟩
    by_cases hp : n % 2 = 0
    · have hpb : (n % 2 == 0) = true := by simp [hp]
      rw [if_pos hp]
      simp only [go_sem,hpb,hmd]
      rw [wrap_i64 (x := firstP (n / 2) + 15) (by omega) (by omega), wrap_i64 (x := firstP (n / 2) + 15 - 1) (by omega) (by omega)]
      exact Cl.fin rfl ⟨by rw [show firstP (n / 2) + 15 - 1 = firstP (n / 2) + 14 from by omega]; rfl, rfl⟩
    · have hpb : (n % 2 == 0) = false := by simp [hp]
      rw [if_neg hp]
      simp only [go_sem,hpb,hmd]
      rw [wrap_i64 (x := firstP (n / 2) + 15) (by omega) (by omega)]
      exact Cl.fin rfl ⟨rfl, rfl⟩
  rw [if_neg h3] at hc
  have e1 : (k == 1) = false := by simp [h3]
  have hl : lenC k = 14 ∨ lenC k = 7 := by unfold lenC; split <;> simp
  have hmi : 0 ≤ misC k a ∧ misC k a < lenC k := ⟨Int.emod_nonneg _ (by omega), Int.emod_lt_of_pos _ (by omega)⟩
  have hnb : n * lenC k ≤ 84040 ∧ 0 ≤ n * lenC k := by
    rcases hl with h9 | h9 <;> (rw [h9] at hc hmi ⊢; omega)
  simp only [go_sem,e0,e1]
  refine callC_det (weeks_ok k a h) rfl rfl ?_
  simp only [go_sem]
  rw [wrap_i64 (x := n * lenC k) (by omega) (by omega), wrap_i64 (x := n * lenC k - misC k a) (by omega) (by omega), wrap_i64 (x := n * lenC k - misC k a + lenC k) (by omega) (by omega), wrap_i64 (x := n * lenC k - misC k a + lenC k - 1) (by omega) (by omega)]
  rw [if_neg h0, if_neg h3]
  exact Cl.fin rfl ⟨rfl, rfl⟩

end Go.Proofs.YtlanehcihoiglaaGreatDoor
