/- Which rules are valid, and the days that they name. -/
import Derived.Test.YtlanehcihoiglaaGreatDoorE3Rule0
import Derived.Test.YtlanehcihoiglaaGreatDoorB2zForms
set_option linter.unusedSimpArgs false
set_option linter.unusedVariables false
set_option linter.unusedSectionVars false
namespace Go.Proofs.YtlanehcihoiglaaGreatDoor
open Go Go.Abs
open Go.RowKit (Below)
set_option linter.unusedSimpArgs false

theorem ruleP_iff (k m d wd o : Int) (b : Bool) : ruleP ⟨k, m, d, wd, o, b⟩ = true ↔ (k = 0 ∧ 1 ≤ m ∧ m ≤ 12 ∧ wd = 0 ∧ o = 0 ∧ 1 ≤ d ∧ d ≤ lens29 m) ∨ (k = 1 ∧ -100 ≤ o ∧ o ≤ 100 ∧ m = 0 ∧ d = 0 ∧ wd = 0) ∨
    (k = 2 ∧ 1 ≤ m ∧ m ≤ 12 ∧ (d = -1 ∨ 1 ≤ d ∧ d ≤ 5) ∧ 0 ≤ wd ∧ wd ≤ 6 ∧ -7 ≤ o ∧ o ≤ 7) := by
  unfold ruleP
  simp only
  split
  · subst_vars; simp
  · split
    · subst_vars; simp
    · split
      · subst_vars; simp
      · simp_all
theorem rule_ok (h : Hol) : AFn Tryz.prog 52 [.agg (Cel.c h)] [] (fun v rs => v = .bool (ruleP h) ∧ rs = []) := by
  obtain ⟨k, m, d, wd, o, b⟩ := h
  rw [cel_hol]
  by_cases h0 : k = 0 ∧ 1 ≤ m ∧ m ≤ 12 ∧ wd = 0 ∧ o = 0
  · obtain ⟨rfl, h1, h2, rfl, rfl⟩ := h0
    refine (rule0_ok m d b h1 h2).mono ?_
    rintro _ _ ⟨rfl, rfl⟩
    simp [ruleP, h1, h2]
  · refine afn Tryz.func52 a52_ok (by simp [a52]) ?_
    simp only [go_sem,a52,a52r0,a52r1,a52r2,a52r3,a52r4,a52r5,a52r6,a52r7,a52r8,a52r9,a52r10,a52r11,a52r12,a52r13]
    repeat' (first | (refine grdC_intro ?_ ?_ <;> intro hg <;> (have hp := hg; try simp only [decide_eq_true_eq,decide_eq_false_iff_not,beq_iff_eq,beq_eq_false_iff_ne,bne_iff_ne,bne_eq_false_iff_eq,Bool.not_eq_true',Bool.not_eq_false',Int.not_lt,Int.not_le,ne_eq,Bool.and_eq_true,Bool.or_eq_true,Bool.or_eq_false_iff,Bool.and_eq_false_iff] at hp) <;> (first | omega | (simp only [go_sem,hg,]; clear hg))) | (refine grdD_intro ?_ ?_ <;> intro hg <;> (have hp := hg; try simp only [decide_eq_true_eq,decide_eq_false_iff_not,beq_iff_eq,beq_eq_false_iff_ne,bne_iff_ne,bne_eq_false_iff_eq,Bool.not_eq_true',Bool.not_eq_false',Int.not_lt,Int.not_le,ne_eq,Bool.and_eq_true,Bool.or_eq_true,Bool.or_eq_false_iff,Bool.and_eq_false_iff] at hp) <;> (first | omega | (simp only [go_sem,hg,]; clear hg))) | (refine condC_intro ?_ ?_ <;> intro hg <;> (have hp := hg; try simp only [decide_eq_true_eq,decide_eq_false_iff_not,beq_iff_eq,beq_eq_false_iff_ne,bne_iff_ne,bne_eq_false_iff_eq,Bool.not_eq_true',Bool.not_eq_false',Int.not_lt,Int.not_le,ne_eq,Bool.and_eq_true,Bool.or_eq_true,Bool.or_eq_false_iff,Bool.and_eq_false_iff] at hp) <;> (first | omega | (simp only [go_sem,hg,]; clear hg))) | (refine condW_intro ?_ ?_ <;> intro hg <;> (have hp := hg; try simp only [decide_eq_true_eq,decide_eq_false_iff_not,beq_iff_eq,beq_eq_false_iff_ne,bne_iff_ne,bne_eq_false_iff_eq,Bool.not_eq_true',Bool.not_eq_false',Int.not_lt,Int.not_le,ne_eq,Bool.and_eq_true,Bool.or_eq_true,Bool.or_eq_false_iff,Bool.and_eq_false_iff] at hp) <;> (first | omega | (simp only [go_sem,hg,]; clear hg))))
    all_goals first
      | (exfalso; simp only [decide_eq_true_eq, decide_eq_false_iff_not, beq_iff_eq, beq_eq_false_iff_ne, bne_iff_ne, bne_eq_false_iff_eq, Bool.not_eq_true', Bool.not_eq_false', Int.not_lt, Int.not_le, ne_eq, Bool.and_eq_true, Bool.or_eq_true, Bool.or_eq_false_iff, Bool.and_eq_false_iff] at *; omega)
      | (refine Cl.fin rfl ⟨congrArg AVal.bool ?_, rfl⟩; rw [Bool.eq_iff_iff, ruleP_iff]; simp only [decide_eq_true_eq, decide_eq_false_iff_not, beq_iff_eq, beq_eq_false_iff_ne, bne_iff_ne, bne_eq_false_iff_eq, Bool.not_eq_true', Bool.not_eq_false', Int.not_lt, Int.not_le, ne_eq, Bool.and_eq_true, Bool.or_eq_true, Bool.or_eq_false_iff, Bool.and_eq_false_iff, Bool.false_eq_true, false_iff, true_iff, iff_true, iff_false, and_true, true_and] at *; omega)

def validL (l : List Hol) : Bool := l.all ruleP
def validP (l : List Hol) : Int := if 1024 < l.length then 3 else if validL l = true then 0 else 1

end Go.Proofs.YtlanehcihoiglaaGreatDoor
