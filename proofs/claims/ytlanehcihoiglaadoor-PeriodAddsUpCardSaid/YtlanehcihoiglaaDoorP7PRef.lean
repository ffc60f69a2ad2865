/- Pay calendars: the reference. -/
import Derived.Test.YtlanehcihoiglaaDoorP7Per
set_option linter.unusedSimpArgs false
set_option linter.unusedVariables false
set_option linter.unusedSectionVars false
namespace Go.Proofs.YtlanehcihoiglaaDoor
open Go Go.Abs
set_option linter.unusedSimpArgs false
set_option linter.unusedVariables false

theorem rlength_ok (k a : Int) : AFn Tryd.prog 34 [.agg [.int .i64 k, .int .i64 a]] [] (fun v rs => v = .int .i64 (lenC k) ∧ rs = []) := by
  refine afn Tryd.func34 a34_ok (by simp [a34]) ?_
  unfold lenC
  by_cases h2 : k = 2
  · subst h2
    simp only [go_sem, Nat.reduceAdd, Nat.reduceSub, Nat.reduceMul, Nat.reduceEqDiff, Nat.reduceLT, Nat.reduceLeDiff, Nat.reduceBEq, reduceIte, reduceCtorEq, Int.reduceToNat, Int.reduceLE, Int.reduceLT, Int.reduceBEq, Int.reduceBNe, a34, a34r0, a34r1, a34r2, a34r3]
    exact Cl.fin rfl ⟨rfl, rfl⟩
  · rw [if_neg h2]
    have e2 : (k == 2) = false := by simp [h2]
    simp only [go_sem, Nat.reduceAdd, Nat.reduceSub, Nat.reduceMul, Nat.reduceEqDiff, Nat.reduceLT, Nat.reduceLeDiff, Nat.reduceBEq, reduceIte, reduceCtorEq, Int.reduceToNat, Int.reduceLE, Int.reduceLT, Int.reduceBEq, Int.reduceBNe, a34, a34r0, a34r1, a34r2, a34r3, e2]
    exact Cl.fin rfl ⟨rfl, rfl⟩
theorem rpvalid_ok (k a : Int) : AFn Tryd.prog 25 [.agg [.int .i64 k, .int .i64 a]] [] (fun v rs => v = .int .i64 (calE k a) ∧ rs = []) := by
  refine afn Tryd.func25 a25_ok (by simp [a25]) ?_
  have hL := rlength_ok k a
  unfold calE
  by_cases h0 : k = 0
  · subst h0
    rw [if_pos (by omega)]
    by_cases ha : a = 0
    · subst ha
      simp only [go_sem, Nat.reduceAdd, Nat.reduceSub, Nat.reduceMul, Nat.reduceEqDiff, Nat.reduceLT, Nat.reduceLeDiff, Nat.reduceBEq, reduceIte, reduceCtorEq, Int.reduceToNat, Int.reduceLE, Int.reduceLT, Int.reduceBEq, Int.reduceBNe, a25, a25r0, a25r1, a25r2, a25r3, a25r4, a25r5, a25r6, a25r7, a25r8, a25r9, a25r10]
      exact Cl.fin rfl ⟨rfl, rfl⟩
    · have hb : (a == 0) = false := by simp [ha]
      simp only [go_sem, Nat.reduceAdd, Nat.reduceSub, Nat.reduceMul, Nat.reduceEqDiff, Nat.reduceLT, Nat.reduceLeDiff, Nat.reduceBEq, reduceIte, reduceCtorEq, Int.reduceToNat, Int.reduceLE, Int.reduceLT, Int.reduceBEq, Int.reduceBNe, a25, a25r0, a25r1, a25r2, a25r3, a25r4, a25r5, a25r6, a25r7, a25r8, a25r9, a25r10, hb]
      exact Cl.fin rfl ⟨by rw [if_neg ha], rfl⟩
  by_cases h1 : k = 1
  · subst h1
    rw [if_pos (by omega)]
    by_cases ha : a = 0
    · subst ha
      simp only [go_sem, Nat.reduceAdd, Nat.reduceSub, Nat.reduceMul, Nat.reduceEqDiff, Nat.reduceLT, Nat.reduceLeDiff, Nat.reduceBEq, reduceIte, reduceCtorEq, Int.reduceToNat, Int.reduceLE, Int.reduceLT, Int.reduceBEq, Int.reduceBNe, a25, a25r0, a25r1, a25r2, a25r3, a25r4, a25r5, a25r6, a25r7, a25r8, a25r9, a25r10]
      exact Cl.fin rfl ⟨rfl, rfl⟩
    · have hb : (a == 0) = false := by simp [ha]
      simp only [go_sem, Nat.reduceAdd, Nat.reduceSub, Nat.reduceMul, Nat.reduceEqDiff, Nat.reduceLT, Nat.reduceLeDiff, Nat.reduceBEq, reduceIte, reduceCtorEq, Int.reduceToNat, Int.reduceLE, Int.reduceLT, Int.reduceBEq, Int.reduceBNe, a25, a25r0, a25r1, a25r2, a25r3, a25r4, a25r5, a25r6, a25r7, a25r8, a25r9, a25r10, hb]
      exact Cl.fin rfl ⟨by rw [if_neg ha], rfl⟩
  rw [if_neg (by omega)]
  have e0 : (k == 0) = false := by simp [h0]
  have e1 : (k == 1) = false := by simp [h1]
  by_cases h2 : k = 2
  · subst h2
    rw [if_pos rfl]
    have hl : lenC 2 = 14 := rfl
    rw [hl] at hL
    by_cases ha : a ≥ 0
    · simp only [go_sem, Nat.reduceAdd, Nat.reduceSub, Nat.reduceMul, Nat.reduceEqDiff, Nat.reduceLT, Nat.reduceLeDiff, Nat.reduceBEq, reduceIte, reduceCtorEq, Int.reduceToNat, Int.reduceLE, Int.reduceLT, Int.reduceBEq, Int.reduceBNe, a25, a25r0, a25r1, a25r2, a25r3, a25r4, a25r5, a25r6, a25r7, a25r8, a25r9, a25r10, ha]
      refine callD_det hL rfl rfl ?_
      simp only [go_sem, Nat.reduceAdd, Nat.reduceSub, Nat.reduceMul, Nat.reduceEqDiff, Nat.reduceLT, Nat.reduceLeDiff, Nat.reduceBEq, reduceIte, reduceCtorEq, Int.reduceToNat, Int.reduceLE, Int.reduceLT, Int.reduceBEq, Int.reduceBNe]
      by_cases hb : a < 14
      · simp only [go_sem, Nat.reduceAdd, Nat.reduceSub, Nat.reduceMul, Nat.reduceEqDiff, Nat.reduceLT, Nat.reduceLeDiff, Nat.reduceBEq, reduceIte, reduceCtorEq, Int.reduceToNat, Int.reduceLE, Int.reduceLT, Int.reduceBEq, Int.reduceBNe, hb]
        exact Cl.fin rfl ⟨by rw [if_pos (by omega)], rfl⟩
      · simp only [go_sem, Nat.reduceAdd, Nat.reduceSub, Nat.reduceMul, Nat.reduceEqDiff, Nat.reduceLT, Nat.reduceLeDiff, Nat.reduceBEq, reduceIte, reduceCtorEq, Int.reduceToNat, Int.reduceLE, Int.reduceLT, Int.reduceBEq, Int.reduceBNe, hb]
        exact Cl.fin rfl ⟨by rw [if_neg (by omega)], rfl⟩
    · simp only [go_sem, Nat.reduceAdd, Nat.reduceSub, Nat.reduceMul, Nat.reduceEqDiff, Nat.reduceLT, Nat.reduceLeDiff, Nat.reduceBEq, reduceIte, reduceCtorEq, Int.reduceToNat, Int.reduceLE, Int.reduceLT, Int.reduceBEq, Int.reduceBNe, a25, a25r0, a25r1, a25r2, a25r3, a25r4, a25r5, a25r6, a25r7, a25r8, a25r9, a25r10, ha]
      exact Cl.fin rfl ⟨by first | rfl | rw [if_neg (by omega)], rfl⟩
  rw [if_neg h2]
  have e2 : (k == 2) = false := by simp [h2]
  by_cases h3 : k = 3
  · subst h3
    rw [if_pos rfl]
    have hl : lenC 3 = 7 := rfl
    rw [hl] at hL
    by_cases ha : a ≥ 0
    · simp only [go_sem, Nat.reduceAdd, Nat.reduceSub, Nat.reduceMul, Nat.reduceEqDiff, Nat.reduceLT, Nat.reduceLeDiff, Nat.reduceBEq, reduceIte, reduceCtorEq, Int.reduceToNat, Int.reduceLE, Int.reduceLT, Int.reduceBEq, Int.reduceBNe, a25, a25r0, a25r1, a25r2, a25r3, a25r4, a25r5, a25r6, a25r7, a25r8, a25r9, a25r10, ha]
      refine callD_det hL rfl rfl ?_
      simp only [go_sem, Nat.reduceAdd, Nat.reduceSub, Nat.reduceMul, Nat.reduceEqDiff, Nat.reduceLT, Nat.reduceLeDiff, Nat.reduceBEq, reduceIte, reduceCtorEq, Int.reduceToNat, Int.reduceLE, Int.reduceLT, Int.reduceBEq, Int.reduceBNe]
      by_cases hb : a < 7
      · simp only [go_sem, Nat.reduceAdd, Nat.reduceSub, Nat.reduceMul, Nat.reduceEqDiff, Nat.reduceLT, Nat.reduceLeDiff, Nat.reduceBEq, reduceIte, reduceCtorEq, Int.reduceToNat, Int.reduceLE, Int.reduceLT, Int.reduceBEq, Int.reduceBNe, hb]
        exact Cl.fin rfl ⟨by rw [if_pos (by omega)], rfl⟩
      · simp only [go_sem, Nat.reduceAdd, Nat.reduceSub, Nat.reduceMul, Nat.reduceEqDiff, Nat.reduceLT, Nat.reduceLeDiff, Nat.reduceBEq, reduceIte, reduceCtorEq, Int.reduceToNat, Int.reduceLE, Int.reduceLT, Int.reduceBEq, Int.reduceBNe, hb]
        exact Cl.fin rfl ⟨by rw [if_neg (by omega)], rfl⟩
    · simp only [go_sem, Nat.reduceAdd, Nat.reduceSub, Nat.reduceMul, Nat.reduceEqDiff, Nat.reduceLT, Nat.reduceLeDiff, Nat.reduceBEq, reduceIte, reduceCtorEq, Int.reduceToNat, Int.reduceLE, Int.reduceLT, Int.reduceBEq, Int.reduceBNe, a25, a25r0, a25r1, a25r2, a25r3, a25r4, a25r5, a25r6, a25r7, a25r8, a25r9, a25r10, ha]
      exact Cl.fin rfl ⟨by first | rfl | rw [if_neg (by omega)], rfl⟩
  rw [if_neg h3]
  have e3 : (k == 3) = false := by simp [h3]
  simp only [go_sem, Nat.reduceAdd, Nat.reduceSub, Nat.reduceMul, Nat.reduceEqDiff, Nat.reduceLT, Nat.reduceLeDiff, Nat.reduceBEq, reduceIte, reduceCtorEq, Int.reduceToNat, Int.reduceLE, Int.reduceLT, Int.reduceBEq, Int.reduceBNe, a25, a25r0, a25r1, a25r2, a25r3, a25r4, a25r5, a25r6, a25r7, a25r8, a25r9, a25r10, e0, e1, e2, e3]
  exact Cl.fin rfl ⟨rfl, rfl⟩
theorem rof_ok (k a d : Int) (h : calE k a = 0) (hd : okD d) : AFn Tryd.prog 27 [.agg [.int .i64 k, .int .i64 a], .int .i64 d] [] (fun v rs => v = .int .i64 (ofP k a d) ∧ rs = []) := by
  refine afn Tryd.func27 a27_ok (by simp [a27]) ?_
  have hk := calE_kind h
  have hm := mon_bd hd
  have hd1 := hd.1
  have hd2 := hd.2
  unfold ofP
  by_cases h0 : k = 0
  · subst h0
    rw [if_pos rfl]
    simp only [go_sem, Nat.reduceAdd, Nat.reduceSub, Nat.reduceMul, Nat.reduceEqDiff, Nat.reduceLT, Nat.reduceLeDiff, Nat.reduceBEq, reduceIte, reduceCtorEq, Int.reduceToNat, Int.reduceLE, Int.reduceLT, Int.reduceBEq, Int.reduceBNe, a27, a27r0, a27r1, a27r2, a27r3, a27r4, a27r5, a27r6, a27r7, a27r8, a27r9, a27r10, a27r11]
    refine callC_det (rMonth_ok d) rfl rfl ?_
    simp only [go_sem, Nat.reduceAdd, Nat.reduceSub, Nat.reduceMul, Nat.reduceEqDiff, Nat.reduceLT, Nat.reduceLeDiff, Nat.reduceBEq, reduceIte, reduceCtorEq, Int.reduceToNat, Int.reduceLE, Int.reduceLT, Int.reduceBEq, Int.reduceBNe]
    exact Cl.fin rfl ⟨rfl, rfl⟩
  rw [if_neg h0]
  have e0 : (k == 0) = false := by simp [h0]
  by_cases h1 : k = 1
  · subst h1
    rw [if_pos rfl]
    have hD := rDate_ok d
    rw [if_pos hd] at hD
    simp only [go_sem, Nat.reduceAdd, Nat.reduceSub, Nat.reduceMul, Nat.reduceEqDiff, Nat.reduceLT, Nat.reduceLeDiff, Nat.reduceBEq, reduceIte, reduceCtorEq, Int.reduceToNat, Int.reduceLE, Int.reduceLT, Int.reduceBEq, Int.reduceBNe, a27, a27r0, a27r1, a27r2, a27r3, a27r4, a27r5, a27r6, a27r7, a27r8, a27r9, a27r10, a27r11]
    refine callC_det (rMonth_ok d) rfl rfl ?_
    simp only [go_sem, Nat.reduceAdd, Nat.reduceSub, Nat.reduceMul, Nat.reduceEqDiff, Nat.reduceLT, Nat.reduceLeDiff, Nat.reduceBEq, reduceIte, reduceCtorEq, Int.reduceToNat, Int.reduceLE, Int.reduceLT, Int.reduceBEq, Int.reduceBNe]
    refine callC_det hD rfl rfl ?_
    simp only [go_sem, Nat.reduceAdd, Nat.reduceSub, Nat.reduceMul, Nat.reduceEqDiff, Nat.reduceLT, Nat.reduceLeDiff, Nat.reduceBEq, reduceIte, reduceCtorEq, Int.reduceToNat, Int.reduceLE, Int.reduceLT, Int.reduceBEq, Int.reduceBNe]
    rw [wrap_i64 (x := 2 * monthP d) (by omega) (by omega)]
    by_cases hg : (dateM d).2 + 1 > 15
    · rw [if_pos (by omega)]
      simp only [go_sem, Nat.reduceAdd, Nat.reduceSub, Nat.reduceMul, Nat.reduceEqDiff, Nat.reduceLT, Nat.reduceLeDiff, Nat.reduceBEq, reduceIte, reduceCtorEq, Int.reduceToNat, Int.reduceLE, Int.reduceLT, Int.reduceBEq, Int.reduceBNe, hg]
      rw [wrap_i64 (x := 2 * monthP d + 1) (by omega) (by omega)]
      exact Cl.fin rfl ⟨rfl, rfl⟩
    · rw [if_neg (by omega)]
      simp only [go_sem, Nat.reduceAdd, Nat.reduceSub, Nat.reduceMul, Nat.reduceEqDiff, Nat.reduceLT, Nat.reduceLeDiff, Nat.reduceBEq, reduceIte, reduceCtorEq, Int.reduceToNat, Int.reduceLE, Int.reduceLT, Int.reduceBEq, Int.reduceBNe, hg]
      exact Cl.fin rfl ⟨by rw [Int.add_zero], rfl⟩
  rw [if_neg h1]
  have e1 : (k == 1) = false := by simp [h1]
  have hl : lenC k = 14 ∨ lenC k = 7 := by unfold lenC; split <;> simp
  have hmi : 0 ≤ misC k a ∧ misC k a < lenC k := ⟨Int.emod_nonneg _ (by omega), Int.emod_lt_of_pos _ (by omega)⟩
  have hla : 0 ≤ lenC k - a := by unfold lenC; split <;> omega
  have hmis : (lenC k - a).tmod (lenC k) = misC k a := Int.tmod_eq_emod_of_nonneg hla
  have hdiv : 0 ≤ (d + misC k a) / lenC k ∧ (d + misC k a) / lenC k ≤ 84020 := by
    rcases hl with h | h <;> (have h9 := hmi; rw [h] at h9 ⊢; omega)
  simp only [go_sem, Nat.reduceAdd, Nat.reduceSub, Nat.reduceMul, Nat.reduceEqDiff, Nat.reduceLT, Nat.reduceLeDiff, Nat.reduceBEq, reduceIte, reduceCtorEq, Int.reduceToNat, Int.reduceLE, Int.reduceLT, Int.reduceBEq, Int.reduceBNe, a27, a27r0, a27r1, a27r2, a27r3, a27r4, a27r5, a27r6, a27r7, a27r8, a27r9, a27r10, a27r11, e0, e1]
  refine callC_det (rlength_ok k a) rfl rfl ?_
  simp only [go_sem, Nat.reduceAdd, Nat.reduceSub, Nat.reduceMul, Nat.reduceEqDiff, Nat.reduceLT, Nat.reduceLeDiff, Nat.reduceBEq, reduceIte, reduceCtorEq, Int.reduceToNat, Int.reduceLE, Int.reduceLT, Int.reduceBEq, Int.reduceBNe]
  rw [wrap_i64 (x := lenC k - a) (by omega) (by omega), hmis, wrap_i64 (x := d + misC k a) (by omega) (by omega), Int.tdiv_eq_ediv_of_nonneg (by omega), wrap_i64 (x := (d + misC k a) / lenC k) (by omega) (by omega)]
  exact ⟨by omega, by omega, Cl.fin rfl ⟨rfl, rfl⟩⟩
theorem rOf_ok (k a d : Int) : AFn Tryd.prog 9 [.agg [.int .i64 k, .int .i64 a], .int .i64 d] []
    (fun v rs => v = (if calE k a ≠ 0 then .tup [.int .i64 0, .int .i64 (calE k a)] else if okD d then .tup [.int .i64 (ofP k a d), .int .i64 0] else .tup [.int .i64 0, .int .i64 2]) ∧ rs = []) := by
  refine afn Tryd.func9 a9_ok (by simp [a9]) ?_
  simp only [go_sem, Nat.reduceAdd, Nat.reduceSub, Nat.reduceMul, Nat.reduceEqDiff, Nat.reduceLT, Nat.reduceLeDiff, Nat.reduceBEq, reduceIte, reduceCtorEq, Int.reduceToNat, Int.reduceLE, Int.reduceLT, Int.reduceBEq, Int.reduceBNe, a9, a9r0, a9r1, a9r2, a9r3, a9r4, a9r5, a9r6]
  refine callC_det (rpvalid_ok k a) rfl rfl ?_
  simp only [go_sem, Nat.reduceAdd, Nat.reduceSub, Nat.reduceMul, Nat.reduceEqDiff, Nat.reduceLT, Nat.reduceLeDiff, Nat.reduceBEq, reduceIte, reduceCtorEq, Int.reduceToNat, Int.reduceLE, Int.reduceLT, Int.reduceBEq, Int.reduceBNe]
  by_cases h : calE k a = 0
  rotate_left
  · have hb : (calE k a != 0) = true := by simp [h]
    rw [if_pos h]
    simp only [go_sem, Nat.reduceAdd, Nat.reduceSub, Nat.reduceMul, Nat.reduceEqDiff, Nat.reduceLT, Nat.reduceLeDiff, Nat.reduceBEq, reduceIte, reduceCtorEq, Int.reduceToNat, Int.reduceLE, Int.reduceLT, Int.reduceBEq, Int.reduceBNe, hb]
    exact Cl.fin rfl ⟨rfl, rfl⟩
  have hb : (calE k a != 0) = false := by simp [h]
  rw [if_neg (fun e => e h)]
  simp only [go_sem, Nat.reduceAdd, Nat.reduceSub, Nat.reduceMul, Nat.reduceEqDiff, Nat.reduceLT, Nat.reduceLeDiff, Nat.reduceBEq, reduceIte, reduceCtorEq, Int.reduceToNat, Int.reduceLE, Int.reduceLT, Int.reduceBEq, Int.reduceBNe, hb]
  refine callC_det (rInDays_ok d) rfl rfl ?_
  by_cases hd : okD d
  · rw [if_pos hd]
    simp only [go_sem, Nat.reduceAdd, Nat.reduceSub, Nat.reduceMul, Nat.reduceEqDiff, Nat.reduceLT, Nat.reduceLeDiff, Nat.reduceBEq, reduceIte, reduceCtorEq, Int.reduceToNat, Int.reduceLE, Int.reduceLT, Int.reduceBEq, Int.reduceBNe, hd]
    refine callC_det (rof_ok k a d h hd) rfl rfl ?_
    simp only [go_sem, Nat.reduceAdd, Nat.reduceSub, Nat.reduceMul, Nat.reduceEqDiff, Nat.reduceLT, Nat.reduceLeDiff, Nat.reduceBEq, reduceIte, reduceCtorEq, Int.reduceToNat, Int.reduceLE, Int.reduceLT, Int.reduceBEq, Int.reduceBNe]
    exact Cl.fin rfl ⟨rfl, rfl⟩
  · rw [if_neg hd]
    simp only [go_sem, Nat.reduceAdd, Nat.reduceSub, Nat.reduceMul, Nat.reduceEqDiff, Nat.reduceLT, Nat.reduceLeDiff, Nat.reduceBEq, reduceIte, reduceCtorEq, Int.reduceToNat, Int.reduceLE, Int.reduceLT, Int.reduceBEq, Int.reduceBNe, hd]
    exact Cl.fin rfl ⟨rfl, rfl⟩
theorem rCount_ok (k a : Int) : AFn Tryd.prog 12 [.agg [.int .i64 k, .int .i64 a]] [] (fun v rs => v = .int .i64 (cntP k a) ∧ rs = []) := by
  refine afn Tryd.func12 a12_ok (by simp [a12]) ?_
  unfold cntP
  simp only [go_sem, Nat.reduceAdd, Nat.reduceSub, Nat.reduceMul, Nat.reduceEqDiff, Nat.reduceLT, Nat.reduceLeDiff, Nat.reduceBEq, reduceIte, reduceCtorEq, Int.reduceToNat, Int.reduceLE, Int.reduceLT, Int.reduceBEq, Int.reduceBNe, a12, a12r0, a12r1, a12r2, a12r3]
  refine callC_det (rpvalid_ok k a) rfl rfl ?_
  by_cases h : calE k a = 0
  rotate_left
  · have hb : (calE k a != 0) = true := by simp [h]
    rw [if_neg h]
    simp only [go_sem, Nat.reduceAdd, Nat.reduceSub, Nat.reduceMul, Nat.reduceEqDiff, Nat.reduceLT, Nat.reduceLeDiff, Nat.reduceBEq, reduceIte, reduceCtorEq, Int.reduceToNat, Int.reduceLE, Int.reduceLT, Int.reduceBEq, Int.reduceBNe, hb]
    exact Cl.fin rfl ⟨rfl, rfl⟩
  have hb : (calE k a != 0) = false := by simp [h]
  rw [if_pos h]
  have hbd := ofP_bd h maxD
  simp only [go_sem, Nat.reduceAdd, Nat.reduceSub, Nat.reduceMul, Nat.reduceEqDiff, Nat.reduceLT, Nat.reduceLeDiff, Nat.reduceBEq, reduceIte, reduceCtorEq, Int.reduceToNat, Int.reduceLE, Int.reduceLT, Int.reduceBEq, Int.reduceBNe, hb]
  refine callC_det (rof_ok k a 84005 h maxD) rfl rfl ?_
  simp only [go_sem, Nat.reduceAdd, Nat.reduceSub, Nat.reduceMul, Nat.reduceEqDiff, Nat.reduceLT, Nat.reduceLeDiff, Nat.reduceBEq, reduceIte, reduceCtorEq, Int.reduceToNat, Int.reduceLE, Int.reduceLT, Int.reduceBEq, Int.reduceBNe]
  rw [wrap_i64 (x := ofP k a 84005 + 1) (by omega) (by omega)]
  exact Cl.fin rfl ⟨rfl, rfl⟩
set_option maxHeartbeats 1000000 in
theorem rSpan_ok (k a n : Int) (hn : -9223372036854775808 ≤ n) (hn2 : n ≤ 9223372036854775807) : AFn Tryd.prog 19 [.agg [.int .i64 k, .int .i64 a], .int .i64 n] []
    (fun v rs => v = (if calE k a ≠ 0 then .tup [.agg [.int .i64 0, .int .i64 0], .int .i64 (calE k a)] else if 0 ≤ n ∧ n < cntP k a then .tup [.agg [.int .i64 (spP k a n).1, .int .i64 (spP k a n).2], .int .i64 0] else .tup [.agg [.int .i64 0, .int .i64 0], .int .i64 2]) ∧ rs = []) := by
  refine afn Tryd.func19 a19_ok (by simp [a19]) ?_
  simp only [go_sem, Nat.reduceAdd, Nat.reduceSub, Nat.reduceMul, Nat.reduceEqDiff, Nat.reduceLT, Nat.reduceLeDiff, Nat.reduceBEq, reduceIte, reduceCtorEq, Int.reduceToNat, Int.reduceLE, Int.reduceLT, Int.reduceBEq, Int.reduceBNe, a19, a19r0, a19r1, a19r2, a19r3, a19r4, a19r5, a19r6, a19r7, a19r8, a19r9, a19r10, a19r11, a19r12, a19r13, a19r14, a19r15, a19r16, a19r17, a19r18, a19r19]
  refine callC_det (rpvalid_ok k a) rfl rfl ?_
  simp only [go_sem, Nat.reduceAdd, Nat.reduceSub, Nat.reduceMul, Nat.reduceEqDiff, Nat.reduceLT, Nat.reduceLeDiff, Nat.reduceBEq, reduceIte, reduceCtorEq, Int.reduceToNat, Int.reduceLE, Int.reduceLT, Int.reduceBEq, Int.reduceBNe]
  by_cases h : calE k a = 0
  rotate_left
  · have hb : (calE k a != 0) = true := by simp [h]
    rw [if_pos h]
    simp only [go_sem, Nat.reduceAdd, Nat.reduceSub, Nat.reduceMul, Nat.reduceEqDiff, Nat.reduceLT, Nat.reduceLeDiff, Nat.reduceBEq, reduceIte, reduceCtorEq, Int.reduceToNat, Int.reduceLE, Int.reduceLT, Int.reduceBEq, Int.reduceBNe, hb]
    exact Cl.fin rfl ⟨rfl, rfl⟩
  have hb : (calE k a != 0) = false := by simp [h]
  rw [if_neg (fun e => e h)]
  have hk := calE_kind h
  have hc := cnt_kind h
  by_cases h1 : n < 0
  · rw [if_neg (fun e => by have := e.1; omega)]
    simp only [go_sem, Nat.reduceAdd, Nat.reduceSub, Nat.reduceMul, Nat.reduceEqDiff, Nat.reduceLT, Nat.reduceLeDiff, Nat.reduceBEq, reduceIte, reduceCtorEq, Int.reduceToNat, Int.reduceLE, Int.reduceLT, Int.reduceBEq, Int.reduceBNe, hb, h1]
    exact Cl.fin rfl ⟨rfl, rfl⟩
  simp only [go_sem, Nat.reduceAdd, Nat.reduceSub, Nat.reduceMul, Nat.reduceEqDiff, Nat.reduceLT, Nat.reduceLeDiff, Nat.reduceBEq, reduceIte, reduceCtorEq, Int.reduceToNat, Int.reduceLE, Int.reduceLT, Int.reduceBEq, Int.reduceBNe, hb, h1]
  refine callC_det (rCount_ok k a) rfl rfl ?_
  simp only [go_sem, Nat.reduceAdd, Nat.reduceSub, Nat.reduceMul, Nat.reduceEqDiff, Nat.reduceLT, Nat.reduceLeDiff, Nat.reduceBEq, reduceIte, reduceCtorEq, Int.reduceToNat, Int.reduceLE, Int.reduceLT, Int.reduceBEq, Int.reduceBNe]
  by_cases h2 : n ≥ cntP k a
  · rw [if_neg (fun e => by have := e.2; omega)]
    simp only [go_sem, Nat.reduceAdd, Nat.reduceSub, Nat.reduceMul, Nat.reduceEqDiff, Nat.reduceLT, Nat.reduceLeDiff, Nat.reduceBEq, reduceIte, reduceCtorEq, Int.reduceToNat, Int.reduceLE, Int.reduceLT, Int.reduceBEq, Int.reduceBNe, h2]
    exact Cl.fin rfl ⟨rfl, rfl⟩
  rw [if_pos ⟨by omega, by omega⟩]
  simp only [go_sem, Nat.reduceAdd, Nat.reduceSub, Nat.reduceMul, Nat.reduceEqDiff, Nat.reduceLT, Nat.reduceLeDiff, Nat.reduceBEq, reduceIte, reduceCtorEq, Int.reduceToNat, Int.reduceLE, Int.reduceLT, Int.reduceBEq, Int.reduceBNe, h2]
  unfold spP
  by_cases h0 : k = 0
  · subst h0
    rw [if_pos rfl] at hc
    have hM : okM n := ⟨by omega, by omega⟩
    have hb := first_bd hM
    have hF := rFirst_ok n
    rw [if_pos hM] at hF
    simp only [go_sem, Nat.reduceAdd, Nat.reduceSub, Nat.reduceMul, Nat.reduceEqDiff, Nat.reduceLT, Nat.reduceLeDiff, Nat.reduceBEq, reduceIte, reduceCtorEq, Int.reduceToNat, Int.reduceLE, Int.reduceLT, Int.reduceBEq, Int.reduceBNe]
    refine callC_det hF rfl rfl ?_
    simp only [go_sem, Nat.reduceAdd, Nat.reduceSub, Nat.reduceMul, Nat.reduceEqDiff, Nat.reduceLT, Nat.reduceLeDiff, Nat.reduceBEq, reduceIte, reduceCtorEq, Int.reduceToNat, Int.reduceLE, Int.reduceLT, Int.reduceBEq, Int.reduceBNe]
    refine callC_det (rLength_ok n) rfl rfl ?_
    simp only [go_sem, Nat.reduceAdd, Nat.reduceSub, Nat.reduceMul, Nat.reduceEqDiff, Nat.reduceLT, Nat.reduceLeDiff, Nat.reduceBEq, reduceIte, reduceCtorEq, Int.reduceToNat, Int.reduceLE, Int.reduceLT, Int.reduceBEq, Int.reduceBNe]
    rw [wrap_i64 (x := firstP n + lengthP n) (by omega) (by omega), wrap_i64 (x := firstP n + lengthP n - 1) (by omega) (by omega), show max (firstP n) 0 = firstP n from by omega, show min (firstP n + lengthP n - 1) 84005 = firstP n + lengthP n - 1 from by omega]
    exact Cl.fin rfl ⟨rfl, rfl⟩
  rw [if_neg h0] at hc
  have e0 : (k == 0) = false := by simp [h0]
  by_cases h3 : k = 1
  · subst h3
    rw [if_pos rfl] at hc
    have hM : okM (n / 2) := ⟨by omega, by omega⟩
    have hb := first_bd hM
    have hF := rFirst_ok (n / 2)
    rw [if_pos hM] at hF
    have hdv : n.tdiv 2 = n / 2 := Int.tdiv_eq_ediv_of_nonneg (by omega)
    have hmd : n.tmod 2 = n % 2 := Int.tmod_eq_emod_of_nonneg (by omega)
    have hwd : IntKind.i64.wrap (n / 2) = n / 2 := wrap_i64 (by omega) (by omega)
    simp only [go_sem, Nat.reduceAdd, Nat.reduceSub, Nat.reduceMul, Nat.reduceEqDiff, Nat.reduceLT, Nat.reduceLeDiff, Nat.reduceBEq, reduceIte, reduceCtorEq, Int.reduceToNat, Int.reduceLE, Int.reduceLT, Int.reduceBEq, Int.reduceBNe, hdv, hmd, hwd]
    refine ⟨by decide, ?_⟩
    refine callC_det hF rfl rfl ?_
    simp only [go_sem, Nat.reduceAdd, Nat.reduceSub, Nat.reduceMul, Nat.reduceEqDiff, Nat.reduceLT, Nat.reduceLeDiff, Nat.reduceBEq, reduceIte, reduceCtorEq, Int.reduceToNat, Int.reduceLE, Int.reduceLT, Int.reduceBEq, Int.reduceBNe]
    refine ⟨by decide, ?_⟩
    by_cases hp : n % 2 = 0
    · have hpb : (n.tmod 2 == 1) = false := by rw [hmd, hp]; rfl
      simp only [go_sem, Nat.reduceAdd, Nat.reduceSub, Nat.reduceMul, Nat.reduceEqDiff, Nat.reduceLT, Nat.reduceLeDiff, Nat.reduceBEq, reduceIte, reduceCtorEq, Int.reduceToNat, Int.reduceLE, Int.reduceLT, Int.reduceBEq, Int.reduceBNe, hpb, hp]
      rw [wrap_i64 (x := firstP (n / 2) + 14) (by omega) (by omega), show max (firstP (n / 2)) 0 = firstP (n / 2) from by omega, show min (firstP (n / 2) + 14) 84005 = firstP (n / 2) + 14 from by omega]
      exact Cl.fin rfl ⟨rfl, rfl⟩
    · have hpb : (n.tmod 2 == 1) = true := by rw [hmd, show n % 2 = 1 from by omega]; rfl
      simp only [go_sem, Nat.reduceAdd, Nat.reduceSub, Nat.reduceMul, Nat.reduceEqDiff, Nat.reduceLT, Nat.reduceLeDiff, Nat.reduceBEq, reduceIte, reduceCtorEq, Int.reduceToNat, Int.reduceLE, Int.reduceLT, Int.reduceBEq, Int.reduceBNe, hpb, hp, hdv, hwd]
      refine ⟨by decide, ?_⟩
      refine callC_det (rLength_ok (n / 2)) rfl rfl ?_
      simp only [go_sem, Nat.reduceAdd, Nat.reduceSub, Nat.reduceMul, Nat.reduceEqDiff, Nat.reduceLT, Nat.reduceLeDiff, Nat.reduceBEq, reduceIte, reduceCtorEq, Int.reduceToNat, Int.reduceLE, Int.reduceLT, Int.reduceBEq, Int.reduceBNe]
      rw [wrap_i64 (x := firstP (n / 2) + 15) (by omega) (by omega), wrap_i64 (x := firstP (n / 2) + lengthP (n / 2)) (by omega) (by omega), wrap_i64 (x := firstP (n / 2) + lengthP (n / 2) - 1) (by omega) (by omega), show max (firstP (n / 2) + 15) 0 = firstP (n / 2) + 15 from by omega, show min (firstP (n / 2) + lengthP (n / 2) - 1) 84005 = firstP (n / 2) + lengthP (n / 2) - 1 from by omega]
      exact Cl.fin rfl ⟨rfl, rfl⟩
  rw [if_neg h3] at hc
  have e1 : (k == 1) = false := by simp [h3]
  have hl : lenC k = 14 ∨ lenC k = 7 := by unfold lenC; split <;> simp
  have hmi : 0 ≤ misC k a ∧ misC k a < lenC k := ⟨Int.emod_nonneg _ (by omega), Int.emod_lt_of_pos _ (by omega)⟩
  have hla : 0 ≤ lenC k - a := by unfold lenC; split <;> omega
  have hmis : (lenC k - a).tmod (lenC k) = misC k a := Int.tmod_eq_emod_of_nonneg hla
  have hnb : n * lenC k ≤ 84040 ∧ 0 ≤ n * lenC k := by
    rcases hl with h9 | h9 <;> (rw [h9] at hc hmi ⊢; omega)
  simp only [go_sem, Nat.reduceAdd, Nat.reduceSub, Nat.reduceMul, Nat.reduceEqDiff, Nat.reduceLT, Nat.reduceLeDiff, Nat.reduceBEq, reduceIte, reduceCtorEq, Int.reduceToNat, Int.reduceLE, Int.reduceLT, Int.reduceBEq, Int.reduceBNe, e0, e1]
  refine callC_det (rlength_ok k a) rfl rfl ?_
  simp only [go_sem, Nat.reduceAdd, Nat.reduceSub, Nat.reduceMul, Nat.reduceEqDiff, Nat.reduceLT, Nat.reduceLeDiff, Nat.reduceBEq, reduceIte, reduceCtorEq, Int.reduceToNat, Int.reduceLE, Int.reduceLT, Int.reduceBEq, Int.reduceBNe]
  rw [wrap_i64 (x := lenC k - a) (by omega) (by omega), hmis, wrap_i64 (x := n * lenC k) (by omega) (by omega), wrap_i64 (x := n * lenC k - misC k a) (by omega) (by omega), wrap_i64 (x := n * lenC k - misC k a + lenC k) (by omega) (by omega), wrap_i64 (x := n * lenC k - misC k a + lenC k - 1) (by omega) (by omega)]
  rw [if_neg h0, if_neg h3]
  exact ⟨by omega, Cl.fin rfl ⟨rfl, rfl⟩⟩

end Go.Proofs.YtlanehcihoiglaaDoor
