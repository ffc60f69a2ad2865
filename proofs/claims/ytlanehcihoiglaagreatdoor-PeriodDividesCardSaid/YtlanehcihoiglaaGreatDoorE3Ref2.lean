/- The reference of chapter 3: days, months, Easter. -/
import Derived.Test.YtlanehcihoiglaaGreatDoorE3Ref
set_option linter.unusedSimpArgs false
set_option linter.unusedVariables false
set_option linter.unusedSectionVars false
namespace Go.Proofs.YtlanehcihoiglaaGreatDoor
open Go Go.Abs
set_option linter.unusedSimpArgs false

theorem rInYears_ok (y : Int) : AFn Tryz.prog 50 [.int .i64 y] [] (fun v rs => v = .bool (decide (okY y)) ∧ rs = []) := by
  refine afn Tryz.func50 a50_ok (by simp [a50]) ?_
  rw [show decide (okY y) = decide (1970 ≤ y ∧ y ≤ 2199) from decide_eq_decide.2 Iff.rfl]
  simp only [go_sem,a50,a50r0,a50r1]
  repeat' (first | (refine grdC_intro ?_ ?_ <;> intro hg <;> (have hp := hg; try simp only [decide_eq_true_eq,decide_eq_false_iff_not,beq_iff_eq,beq_eq_false_iff_ne,bne_iff_ne,bne_eq_false_iff_eq,Bool.not_eq_true',Bool.not_eq_false',Int.not_lt,Int.not_le,ne_eq,Bool.and_eq_true,Bool.or_eq_true,Bool.or_eq_false_iff,Bool.and_eq_false_iff] at hp) <;> (first | omega | (simp only [go_sem,hg,a50,a50r0,a50r1]; clear hg))) | (refine grdD_intro ?_ ?_ <;> intro hg <;> (have hp := hg; try simp only [decide_eq_true_eq,decide_eq_false_iff_not,beq_iff_eq,beq_eq_false_iff_ne,bne_iff_ne,bne_eq_false_iff_eq,Bool.not_eq_true',Bool.not_eq_false',Int.not_lt,Int.not_le,ne_eq,Bool.and_eq_true,Bool.or_eq_true,Bool.or_eq_false_iff,Bool.and_eq_false_iff] at hp) <;> (first | omega | (simp only [go_sem,hg,a50,a50r0,a50r1]; clear hg))) | (refine condC_intro ?_ ?_ <;> intro hg <;> (have hp := hg; try simp only [decide_eq_true_eq,decide_eq_false_iff_not,beq_iff_eq,beq_eq_false_iff_ne,bne_iff_ne,bne_eq_false_iff_eq,Bool.not_eq_true',Bool.not_eq_false',Int.not_lt,Int.not_le,ne_eq,Bool.and_eq_true,Bool.or_eq_true,Bool.or_eq_false_iff,Bool.and_eq_false_iff] at hp) <;> (first | omega | (simp only [go_sem,hg,a50,a50r0,a50r1]; clear hg))) | (refine condW_intro ?_ ?_ <;> intro hg <;> (have hp := hg; try simp only [decide_eq_true_eq,decide_eq_false_iff_not,beq_iff_eq,beq_eq_false_iff_ne,bne_iff_ne,bne_eq_false_iff_eq,Bool.not_eq_true',Bool.not_eq_false',Int.not_lt,Int.not_le,ne_eq,Bool.and_eq_true,Bool.or_eq_true,Bool.or_eq_false_iff,Bool.and_eq_false_iff] at hp) <;> (first | omega | (simp only [go_sem,hg,a50,a50r0,a50r1]; clear hg))))
  all_goals (refine Cl.fin rfl ⟨congrArg AVal.bool ?_, rfl⟩; rw [Bool.eq_iff_iff]; simp only [decide_eq_true_eq, decide_eq_false_iff_not, beq_iff_eq, beq_eq_false_iff_ne, bne_iff_ne, bne_eq_false_iff_eq, Bool.not_eq_true', Bool.not_eq_false', Int.not_lt, Int.not_le, ne_eq, Bool.and_eq_true, Bool.or_eq_true, Bool.or_eq_false_iff, Bool.and_eq_false_iff, Bool.false_eq_true, false_iff, okY]; omega)
theorem rInDays_ok (d : Int) : AFn Tryz.prog 16 [.int .i64 d] [] (fun v rs => v = .bool (decide (okD d)) ∧ rs = []) := by
  refine afn Tryz.func16 a16_ok (by simp [a16]) ?_
  rw [show decide (okD d) = decide (0 ≤ d ∧ d ≤ 84005) from decide_eq_decide.2 Iff.rfl]
  simp only [go_sem,a16,a16r0,a16r1]
  repeat' (first | (refine grdC_intro ?_ ?_ <;> intro hg <;> (have hp := hg; try simp only [decide_eq_true_eq,decide_eq_false_iff_not,beq_iff_eq,beq_eq_false_iff_ne,bne_iff_ne,bne_eq_false_iff_eq,Bool.not_eq_true',Bool.not_eq_false',Int.not_lt,Int.not_le,ne_eq,Bool.and_eq_true,Bool.or_eq_true,Bool.or_eq_false_iff,Bool.and_eq_false_iff] at hp) <;> (first | omega | (simp only [go_sem,hg,a16,a16r0,a16r1]; clear hg))) | (refine grdD_intro ?_ ?_ <;> intro hg <;> (have hp := hg; try simp only [decide_eq_true_eq,decide_eq_false_iff_not,beq_iff_eq,beq_eq_false_iff_ne,bne_iff_ne,bne_eq_false_iff_eq,Bool.not_eq_true',Bool.not_eq_false',Int.not_lt,Int.not_le,ne_eq,Bool.and_eq_true,Bool.or_eq_true,Bool.or_eq_false_iff,Bool.and_eq_false_iff] at hp) <;> (first | omega | (simp only [go_sem,hg,a16,a16r0,a16r1]; clear hg))) | (refine condC_intro ?_ ?_ <;> intro hg <;> (have hp := hg; try simp only [decide_eq_true_eq,decide_eq_false_iff_not,beq_iff_eq,beq_eq_false_iff_ne,bne_iff_ne,bne_eq_false_iff_eq,Bool.not_eq_true',Bool.not_eq_false',Int.not_lt,Int.not_le,ne_eq,Bool.and_eq_true,Bool.or_eq_true,Bool.or_eq_false_iff,Bool.and_eq_false_iff] at hp) <;> (first | omega | (simp only [go_sem,hg,a16,a16r0,a16r1]; clear hg))) | (refine condW_intro ?_ ?_ <;> intro hg <;> (have hp := hg; try simp only [decide_eq_true_eq,decide_eq_false_iff_not,beq_iff_eq,beq_eq_false_iff_ne,bne_iff_ne,bne_eq_false_iff_eq,Bool.not_eq_true',Bool.not_eq_false',Int.not_lt,Int.not_le,ne_eq,Bool.and_eq_true,Bool.or_eq_true,Bool.or_eq_false_iff,Bool.and_eq_false_iff] at hp) <;> (first | omega | (simp only [go_sem,hg,a16,a16r0,a16r1]; clear hg))))
  all_goals (refine Cl.fin rfl ⟨congrArg AVal.bool ?_, rfl⟩; rw [Bool.eq_iff_iff]; simp only [decide_eq_true_eq, decide_eq_false_iff_not, beq_iff_eq, beq_eq_false_iff_ne, bne_iff_ne, bne_eq_false_iff_eq, Bool.not_eq_true', Bool.not_eq_false', Int.not_lt, Int.not_le, ne_eq, Bool.and_eq_true, Bool.or_eq_true, Bool.or_eq_false_iff, Bool.and_eq_false_iff, Bool.false_eq_true, false_iff, okD]; omega)

theorem rDay_ok (y m d : Int) : AFn Tryz.prog 34 [.int .i64 y, .int .i64 m, .int .i64 d] [] (fun v rs => v = .tup [.int .i64 (dayP y m d).1, .bool (dayP y m d).2] ∧ rs = []) := by
  refine afn Tryz.func34 a34_ok (by simp [a34]) ?_
  have hbad : ¬ (1970 ≤ y ∧ y ≤ 2199 ∧ 1 ≤ m ∧ m ≤ 12 ∧ 1 ≤ d ∧ d ≤ lenP y m) → dayP y m d = (0, false) := fun h => by rw [dayP, if_neg h]
  simp only [go_sem,a34,a34r0,a34r1,a34r2,a34r3]
  refine callC_det (rInYears_ok y) rfl rfl ?_
  by_cases hy : okY y
  · rw [decide_eq_true hy]
    unfold okY at hy
    simp only [go_sem]
    repeat' (first | (refine grdC_intro ?_ ?_ <;> intro hg <;> (have hp := hg; try simp only [decide_eq_true_eq,decide_eq_false_iff_not,beq_iff_eq,beq_eq_false_iff_ne,bne_iff_ne,bne_eq_false_iff_eq,Bool.not_eq_true',Bool.not_eq_false',Int.not_lt,Int.not_le,ne_eq,Bool.and_eq_true,Bool.or_eq_true,Bool.or_eq_false_iff,Bool.and_eq_false_iff] at hp) <;> (first | omega | (simp only [go_sem,hg,a34,a34r0,a34r1,a34r2,a34r3]; clear hg))) | (refine grdD_intro ?_ ?_ <;> intro hg <;> (have hp := hg; try simp only [decide_eq_true_eq,decide_eq_false_iff_not,beq_iff_eq,beq_eq_false_iff_ne,bne_iff_ne,bne_eq_false_iff_eq,Bool.not_eq_true',Bool.not_eq_false',Int.not_lt,Int.not_le,ne_eq,Bool.and_eq_true,Bool.or_eq_true,Bool.or_eq_false_iff,Bool.and_eq_false_iff] at hp) <;> (first | omega | (simp only [go_sem,hg,a34,a34r0,a34r1,a34r2,a34r3]; clear hg))) | (refine condC_intro ?_ ?_ <;> intro hg <;> (have hp := hg; try simp only [decide_eq_true_eq,decide_eq_false_iff_not,beq_iff_eq,beq_eq_false_iff_ne,bne_iff_ne,bne_eq_false_iff_eq,Bool.not_eq_true',Bool.not_eq_false',Int.not_lt,Int.not_le,ne_eq,Bool.and_eq_true,Bool.or_eq_true,Bool.or_eq_false_iff,Bool.and_eq_false_iff] at hp) <;> (first | omega | (simp only [go_sem,hg,a34,a34r0,a34r1,a34r2,a34r3]; clear hg))) | (refine condW_intro ?_ ?_ <;> intro hg <;> (have hp := hg; try simp only [decide_eq_true_eq,decide_eq_false_iff_not,beq_iff_eq,beq_eq_false_iff_ne,bne_iff_ne,bne_eq_false_iff_eq,Bool.not_eq_true',Bool.not_eq_false',Int.not_lt,Int.not_le,ne_eq,Bool.and_eq_true,Bool.or_eq_true,Bool.or_eq_false_iff,Bool.and_eq_false_iff] at hp) <;> (first | omega | (simp only [go_sem,hg,a34,a34r0,a34r1,a34r2,a34r3]; clear hg))))
    any_goals exact Cl.fin rfl ⟨by rw [hbad (by omega)], rfl⟩
    refine callC_det (rlen_ok y m (by omega) (by omega) (by omega)) rfl rfl ?_
    simp only [go_sem]
    refine condC_intro ?_ ?_ <;> intro hg1 <;> simp only [decide_eq_true_eq,decide_eq_false_iff_not,beq_iff_eq,beq_eq_false_iff_ne,bne_iff_ne,bne_eq_false_iff_eq,Bool.not_eq_true',Bool.not_eq_false',Int.not_lt,Int.not_le,ne_eq,Bool.and_eq_true,Bool.or_eq_true,Bool.or_eq_false_iff,Bool.and_eq_false_iff] at hg1 <;> simp only [go_sem,a34,a34r0,a34r1,a34r2,a34r3]
    · exact Cl.fin rfl ⟨by rw [hbad (by omega)], rfl⟩
    · have hl := lenP_bd (y := y) (m := m) (by omega) (by omega)
      refine callC_det (rraw_ok y m d (by omega) (by omega) (by omega) (by omega) (by omega) (by omega)) rfl rfl ?_
      simp only [go_sem]
      exact Cl.fin rfl ⟨by rw [dayP, if_pos (by omega)], rfl⟩
  · rw [decide_eq_false hy]
    unfold okY at hy
    simp only [go_sem]
    exact Cl.fin rfl ⟨by rw [hbad (by omega)], rfl⟩

theorem first_day {m : Int} (h : okM m) : dayP (1970 + m / 12) (1 + m % 12) 1 = (firstP m, true) := by
  unfold okM at h
  have hl := lenP_bd (y := 1970 + m / 12) (m := 1 + m % 12) (by omega) (by omega)
  rw [dayP, if_pos (by omega), firstP, show 1 + m % 12 = m % 12 + 1 by omega]
theorem rFirst_ok (m : Int) : AFn Tryz.prog 19 [.int .i64 m] [] (fun v rs => v = (if okM m then .tup [.int .i64 (firstP m), .bool true] else .tup [.int .i64 0, .bool false]) ∧ rs = []) := by
  refine afn Tryz.func19 a19_ok (by simp [a19]) ?_
  simp only [go_sem,a19,a19r0,a19r1,a19r2,a19r3]
  repeat' (first | (refine grdC_intro ?_ ?_ <;> intro hg <;> (have hp := hg; try simp only [decide_eq_true_eq,decide_eq_false_iff_not,beq_iff_eq,beq_eq_false_iff_ne,bne_iff_ne,bne_eq_false_iff_eq,Bool.not_eq_true',Bool.not_eq_false',Int.not_lt,Int.not_le,ne_eq,Bool.and_eq_true,Bool.or_eq_true,Bool.or_eq_false_iff,Bool.and_eq_false_iff] at hp) <;> (first | omega | (simp only [go_sem,hg,a19,a19r0,a19r1,a19r2,a19r3]; clear hg))) | (refine grdD_intro ?_ ?_ <;> intro hg <;> (have hp := hg; try simp only [decide_eq_true_eq,decide_eq_false_iff_not,beq_iff_eq,beq_eq_false_iff_ne,bne_iff_ne,bne_eq_false_iff_eq,Bool.not_eq_true',Bool.not_eq_false',Int.not_lt,Int.not_le,ne_eq,Bool.and_eq_true,Bool.or_eq_true,Bool.or_eq_false_iff,Bool.and_eq_false_iff] at hp) <;> (first | omega | (simp only [go_sem,hg,a19,a19r0,a19r1,a19r2,a19r3]; clear hg))) | (refine condC_intro ?_ ?_ <;> intro hg <;> (have hp := hg; try simp only [decide_eq_true_eq,decide_eq_false_iff_not,beq_iff_eq,beq_eq_false_iff_ne,bne_iff_ne,bne_eq_false_iff_eq,Bool.not_eq_true',Bool.not_eq_false',Int.not_lt,Int.not_le,ne_eq,Bool.and_eq_true,Bool.or_eq_true,Bool.or_eq_false_iff,Bool.and_eq_false_iff] at hp) <;> (first | omega | (simp only [go_sem,hg,a19,a19r0,a19r1,a19r2,a19r3]; clear hg))) | (refine condW_intro ?_ ?_ <;> intro hg <;> (have hp := hg; try simp only [decide_eq_true_eq,decide_eq_false_iff_not,beq_iff_eq,beq_eq_false_iff_ne,bne_iff_ne,bne_eq_false_iff_eq,Bool.not_eq_true',Bool.not_eq_false',Int.not_lt,Int.not_le,ne_eq,Bool.and_eq_true,Bool.or_eq_true,Bool.or_eq_false_iff,Bool.and_eq_false_iff] at hp) <;> (first | omega | (simp only [go_sem,hg,a19,a19r0,a19r1,a19r2,a19r3]; clear hg))))
  any_goals exact Cl.fin rfl ⟨by rw [if_neg (by unfold okM; omega)], rfl⟩
  have hm : okM m := by unfold okM; omega
  rw [Int.tdiv_eq_ediv_of_nonneg (by omega), Int.tmod_eq_emod_of_nonneg (by omega), wrap_i64 (x := m / 12) (by omega) (by omega), wrap_i64 (x := 1970 + m / 12) (by omega) (by omega), wrap_i64 (x := 1 + m % 12) (by omega) (by omega)]
  refine ⟨by decide, by decide, ?_⟩
  refine callC_det (rDay_ok (1970 + m / 12) (1 + m % 12) 1) rfl rfl ?_
  rw [first_day hm]
  simp only [go_sem]
  exact Cl.fin rfl ⟨by rw [if_pos hm], rfl⟩
theorem rLength_ok (m : Int) : AFn Tryz.prog 20 [.int .i64 m] [] (fun v rs => v = .int .i64 (lengthP m) ∧ rs = []) := by
  refine afn Tryz.func20 a20_ok (by simp [a20]) ?_
  simp only [go_sem,a20,a20r0,a20r1,a20r2,a20r3]
  repeat' (first | (refine grdC_intro ?_ ?_ <;> intro hg <;> (have hp := hg; try simp only [decide_eq_true_eq,decide_eq_false_iff_not,beq_iff_eq,beq_eq_false_iff_ne,bne_iff_ne,bne_eq_false_iff_eq,Bool.not_eq_true',Bool.not_eq_false',Int.not_lt,Int.not_le,ne_eq,Bool.and_eq_true,Bool.or_eq_true,Bool.or_eq_false_iff,Bool.and_eq_false_iff] at hp) <;> (first | omega | (simp only [go_sem,hg,a20,a20r0,a20r1,a20r2,a20r3]; clear hg))) | (refine grdD_intro ?_ ?_ <;> intro hg <;> (have hp := hg; try simp only [decide_eq_true_eq,decide_eq_false_iff_not,beq_iff_eq,beq_eq_false_iff_ne,bne_iff_ne,bne_eq_false_iff_eq,Bool.not_eq_true',Bool.not_eq_false',Int.not_lt,Int.not_le,ne_eq,Bool.and_eq_true,Bool.or_eq_true,Bool.or_eq_false_iff,Bool.and_eq_false_iff] at hp) <;> (first | omega | (simp only [go_sem,hg,a20,a20r0,a20r1,a20r2,a20r3]; clear hg))) | (refine condC_intro ?_ ?_ <;> intro hg <;> (have hp := hg; try simp only [decide_eq_true_eq,decide_eq_false_iff_not,beq_iff_eq,beq_eq_false_iff_ne,bne_iff_ne,bne_eq_false_iff_eq,Bool.not_eq_true',Bool.not_eq_false',Int.not_lt,Int.not_le,ne_eq,Bool.and_eq_true,Bool.or_eq_true,Bool.or_eq_false_iff,Bool.and_eq_false_iff] at hp) <;> (first | omega | (simp only [go_sem,hg,a20,a20r0,a20r1,a20r2,a20r3]; clear hg))) | (refine condW_intro ?_ ?_ <;> intro hg <;> (have hp := hg; try simp only [decide_eq_true_eq,decide_eq_false_iff_not,beq_iff_eq,beq_eq_false_iff_ne,bne_iff_ne,bne_eq_false_iff_eq,Bool.not_eq_true',Bool.not_eq_false',Int.not_lt,Int.not_le,ne_eq,Bool.and_eq_true,Bool.or_eq_true,Bool.or_eq_false_iff,Bool.and_eq_false_iff] at hp) <;> (first | omega | (simp only [go_sem,hg,a20,a20r0,a20r1,a20r2,a20r3]; clear hg))))
  any_goals exact Cl.fin rfl ⟨by rw [lengthP, if_neg (by unfold okM; omega)], rfl⟩
  rw [Int.tdiv_eq_ediv_of_nonneg (by omega), Int.tmod_eq_emod_of_nonneg (by omega), wrap_i64 (x := m / 12) (by omega) (by omega), wrap_i64 (x := 1970 + m / 12) (by omega) (by omega), wrap_i64 (x := 1 + m % 12) (by omega) (by omega)]
  refine ⟨by decide, by decide, ?_⟩
  refine callC_det (rlen_ok (1970 + m / 12) (1 + m % 12) (by omega) (by omega) (by omega)) rfl rfl ?_
  simp only [go_sem]
  exact Cl.fin rfl ⟨by rw [lengthP, if_pos (show okM m by unfold okM; omega), show 1 + m % 12 = m % 12 + 1 by omega], rfl⟩

theorem eb_arg {b : Int} (bb : 0 ≤ b ∧ b ≤ 30) : -1000 ≤ b + 1 ∧ b + 1 ≤ 1000 := by omega
theorem reaster_ok (y : Int) (hy : okY y) : AFn Tryz.prog 102 [.int .i64 y] [] (fun v rs => v = .int .i64 (numP y (eaN y / 31) (eaN y % 31 + 1)) ∧ rs = []) := by
  refine afnW Tryz.func102 a102_ok (by simp [a102]) ?_
  unfold okY at hy
  obtain ⟨g, hg⟩ : ∃ z : Int, z = y % 19 := ⟨_, rfl⟩
  have bg : 0 ≤ g ∧ g ≤ 18 := by rw [hg]; exact eb_g 
  obtain ⟨c, hc⟩ : ∃ z : Int, z = y / 100 := ⟨_, rfl⟩
  have bc : 19 ≤ c ∧ c ≤ 21 := by rw [hc]; exact eb_c hy
  obtain ⟨r, hr⟩ : ∃ z : Int, z = y % 100 := ⟨_, rfl⟩
  have br : 0 ≤ r ∧ r ≤ 99 := by rw [hr]; exact eb_r 
  obtain ⟨q, hq⟩ : ∃ z : Int, z = (c + 8) / 25 := ⟨_, rfl⟩
  have bq : 1 ≤ q ∧ q ≤ 1 := by rw [hq]; exact eb_q bc
  obtain ⟨co, hco⟩ : ∃ z : Int, z = (c - q + 1) / 3 := ⟨_, rfl⟩
  have bco : 6 ≤ co ∧ co ≤ 7 := by rw [hco]; exact eb_co bc bq
  obtain ⟨c4, hc4⟩ : ∃ z : Int, z = c / 4 := ⟨_, rfl⟩
  have bc4 : 4 ≤ c4 ∧ c4 ≤ 5 := by rw [hc4]; exact eb_c4 bc
  obtain ⟨ep, hep⟩ : ∃ z : Int, z = (19 * g + c - c4 - co + 15) % 30 := ⟨_, rfl⟩
  have bep : 0 ≤ ep ∧ ep ≤ 29 := by rw [hep]; exact eb_ep 
  obtain ⟨cm, hcm⟩ : ∃ z : Int, z = c % 4 := ⟨_, rfl⟩
  have bcm : 0 ≤ cm ∧ cm ≤ 3 := by rw [hcm]; exact eb_cm 
  obtain ⟨r4, hr4⟩ : ∃ z : Int, z = r / 4 := ⟨_, rfl⟩
  have br4 : 0 ≤ r4 ∧ r4 ≤ 24 := by rw [hr4]; exact eb_r4 br
  obtain ⟨rm, hrm⟩ : ∃ z : Int, z = r % 4 := ⟨_, rfl⟩
  have brm : 0 ≤ rm ∧ rm ≤ 3 := by rw [hrm]; exact eb_rm 
  obtain ⟨le, hle⟩ : ∃ z : Int, z = (32 + 2 * cm + 2 * r4 - ep - rm) % 7 := ⟨_, rfl⟩
  have ble : 0 ≤ le ∧ le ≤ 6 := by rw [hle]; exact eb_le 
  obtain ⟨la, hla⟩ : ∃ z : Int, z = (g + 11 * ep + 22 * le) / 451 := ⟨_, rfl⟩
  have bla : 0 ≤ la ∧ la ≤ 1 := by rw [hla]; exact eb_la bg bep ble
  obtain ⟨a, ha⟩ : ∃ z : Int, z = (ep + le - 7 * la + 114) / 31 := ⟨_, rfl⟩
  have ba : 3 ≤ a ∧ a ≤ 4 := by rw [ha]; exact eb_a bep ble bla
  obtain ⟨b, hb⟩ : ∃ z : Int, z = (ep + le - 7 * la + 114) % 31 := ⟨_, rfl⟩
  have bb : 0 ≤ b ∧ b ≤ 30 := by rw [hb]; exact eb_b 
  obtain ⟨⟨w0, w1, w2, w3, w4, w5, w6, w7, w8, w9, w10, w11, w12, w13, w14, w15, w16, w17, w18, w19, w20, w21, w22, w23, w24, w25, w26, w27, w28, w29⟩, n0, n1, n2, n3, n4, n5, n6, n7, n8, n9, n10, n11, n12, n13⟩ := eaW (y := y) hy bg bc br bq bco bc4 bep bcm br4 brm ble bla ba bb
  have f0 : (y).tmod 19 = g := by rw [Int.tmod_eq_emod_of_nonneg n0, hg]
  have f1 : (y).tdiv 100 = c := by rw [Int.tdiv_eq_ediv_of_nonneg n1, hc]
  have f2 : (y).tmod 100 = r := by rw [Int.tmod_eq_emod_of_nonneg n2, hr]
  have f3 : (c + 8).tdiv 25 = q := by rw [Int.tdiv_eq_ediv_of_nonneg n3, hq]
  have f4 : (c - q + 1).tdiv 3 = co := by rw [Int.tdiv_eq_ediv_of_nonneg n4, hco]
  have f5 : (c).tdiv 4 = c4 := by rw [Int.tdiv_eq_ediv_of_nonneg n5, hc4]
  have f6 : (19 * g + c - c4 - co + 15).tmod 30 = ep := by rw [Int.tmod_eq_emod_of_nonneg n6, hep]
  have f7 : (c).tmod 4 = cm := by rw [Int.tmod_eq_emod_of_nonneg n7, hcm]
  have f8 : (r).tdiv 4 = r4 := by rw [Int.tdiv_eq_ediv_of_nonneg n8, hr4]
  have f9 : (r).tmod 4 = rm := by rw [Int.tmod_eq_emod_of_nonneg n9, hrm]
  have f10 : (32 + 2 * cm + 2 * r4 - ep - rm).tmod 7 = le := by rw [Int.tmod_eq_emod_of_nonneg n10, hle]
  have f11 : (g + 11 * ep + 22 * le).tdiv 451 = la := by rw [Int.tdiv_eq_ediv_of_nonneg n11, hla]
  have f12 : (ep + le - 7 * la + 114).tdiv 31 = a := by rw [Int.tdiv_eq_ediv_of_nonneg n12, ha]
  have f13 : (ep + le - 7 * la + 114).tmod 31 = b := by rw [Int.tmod_eq_emod_of_nonneg n13, hb]
  have eep : eaEp y = ep := by rw [eaEp, ← hg, ← hc, ← hq, ← hco, ← hc4, ← hep]
  have ele : eaLe y = le := by rw [eaLe, eep, ← hc, ← hr, ← hcm, ← hr4, ← hrm, ← hle]
  have en : eaN y = ep + le - 7 * la + 114 := by rw [eaN, eep, ele, ← hg, ← hla]
  rw [en, ← ha, ← hb]
  simp only [go_sem,a102,a102r0,a102r1,a102r2,a102r3,a102r4,a102r5]
  (refine Cl.here ?_; simp only [go_sem])
  refine ⟨by decide, by decide, by decide, ?_⟩
  rw [f0, f1, f2, w0]
  (refine Cl.here ?_; simp only [go_sem,w1,w2,w3,w4,w5,f3,f4,w6,w7,w8,w9,w10,w11,f5,f6])
  refine ⟨by decide, by decide, by decide, by decide, ?_⟩
  (refine Cl.here ?_; simp only [go_sem,w12,w13,w14,w15,w16,w17,w18,f7,f8,f9,f10])
  refine ⟨by decide, by decide, by decide, by decide, ?_⟩
  (refine Cl.here ?_; simp only [go_sem,w19,w20,w21,w22,w23,f11,w24,w25,w26,w27])
  refine ⟨by decide, ?_⟩
  (refine Cl.here ?_; simp only [go_sem,w28,w29,f12,f13])
  refine ⟨by decide, by decide, ?_⟩
  refine callC_det (rraw_ok y a (b + 1) hy.1 (Int.le_trans hy.2 (by decide)) (Int.le_trans (by decide) ba.1) (Int.le_trans ba.2 (by decide)) (eb_arg bb).1 (eb_arg bb).2) rfl rfl ?_
  simp only [go_sem]
  repeat (refine Cl.here ?_; simp only [go_sem])
  exact Cl.fin rfl ⟨rfl, rfl⟩

end Go.Proofs.YtlanehcihoiglaaGreatDoor
