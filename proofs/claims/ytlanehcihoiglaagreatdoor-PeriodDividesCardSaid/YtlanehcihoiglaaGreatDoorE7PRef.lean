/- Pay calendars: the reference. -/
import Derived.Test.YtlanehcihoiglaaGreatDoorE7Per
set_option linter.unusedSimpArgs false
set_option linter.unusedVariables false
set_option linter.unusedSectionVars false
namespace Go.Proofs.YtlanehcihoiglaaGreatDoor
open Go Go.Abs
set_option linter.unusedSimpArgs false
set_option linter.unusedVariables false

theorem rlength_ok (k a : Int) : AFn Tryz.prog 21 [.agg [.int .i64 k, .int .i64 a]] [] (fun v rs => v = .int .i64 (lenC k) ∧ rs = []) := by
  refine afn Tryz.func21 a21_ok (by simp [a21]) ?_
  unfold lenC
  by_cases h2 : k = 2
  · subst h2
    simp only [go_sem,a21,a21r0,a21r1,a21r2,a21r3]
    exact Cl.fin rfl ⟨rfl, rfl⟩
  · rw [if_neg h2]
    have e2 : (k == 2) = false := by simp [h2]
    simp only [go_sem,a21,a21r0,a21r1,a21r2,a21r3,e2]
    exact Cl.fin rfl ⟨rfl, rfl⟩
theorem rpvalid_ok (k a : Int) : AFn Tryz.prog 15 [.agg [.int .i64 k, .int .i64 a]] [] (fun v rs => v = .int .i64 (calE k a) ∧ rs = []) := by
  refine afn Tryz.func15 a15_ok (by simp [a15]) ?_
  have hL := rlength_ok k a
  unfold calE
  by_cases h0 : k = 0
  · subst h0
    rw [if_pos (by omega)]
    by_cases ha : a = 0
    · subst ha
      simp only [go_sem,a15,a15r0,a15r1,a15r2,a15r3,a15r4,a15r5,a15r6,a15r7,a15r8,a15r9,a15r10]
      exact Cl.fin rfl ⟨rfl, rfl⟩
    · have hb : (a == 0) = false := by simp [ha]
      simp only [go_sem,a15,a15r0,a15r1,a15r2,a15r3,a15r4,a15r5,a15r6,a15r7,a15r8,a15r9,a15r10,hb]
      exact Cl.fin rfl ⟨by rw [if_neg ha], rfl⟩
  by_cases h1 : k = 1
  · subst h1
    rw [if_pos (by omega)]
    by_cases ha : a = 0
    · subst ha
      simp only [go_sem,a15,a15r0,a15r1,a15r2,a15r3,a15r4,a15r5,a15r6,a15r7,a15r8,a15r9,a15r10]
      exact Cl.fin rfl ⟨rfl, rfl⟩
    · have hb : (a == 0) = false := by simp [ha]
      simp only [go_sem,a15,a15r0,a15r1,a15r2,a15r3,a15r4,a15r5,a15r6,a15r7,a15r8,a15r9,a15r10,hb]
      exact Cl.fin rfl ⟨by rw [if_neg ha], rfl⟩
  rw [if_neg (by omega)]
  have e0 : (k == 0) = false := by simp [h0]
  have e1 : (k == 1) = false := by simp [h1]
  by_cases h2 : k = 2
  · subst h2
    rw [if_pos rfl]
    have hl : lenC 2 = 14 := rfl
    rw [hl] at hL
    by_cases ha : a ≥ 0
    · simp only [go_sem,a15,a15r0,a15r1,a15r2,a15r3,a15r4,a15r5,a15r6,a15r7,a15r8,a15r9,a15r10,ha]
      refine callD_det hL rfl rfl ?_
      simp only [go_sem]
      by_cases hb : a < 14
      · simp only [go_sem,hb]
        exact Cl.fin rfl ⟨by rw [if_pos (by omega)], rfl⟩
      · simp only [go_sem,hb]
        exact Cl.fin rfl ⟨by rw [if_neg (by omega)], rfl⟩
    · simp only [go_sem,a15,a15r0,a15r1,a15r2,a15r3,a15r4,a15r5,a15r6,a15r7,a15r8,a15r9,a15r10,ha]
      exact Cl.fin rfl ⟨by first | rfl | rw [if_neg (by omega)], rfl⟩
  rw [if_neg h2]
  have e2 : (k == 2) = false := by simp [h2]
  by_cases h3 : k = 3
  · subst h3
    rw [if_pos rfl]
    have hl : lenC 3 = 7 := rfl
    rw [hl] at hL
    by_cases ha : a ≥ 0
    · simp only [go_sem,a15,a15r0,a15r1,a15r2,a15r3,a15r4,a15r5,a15r6,a15r7,a15r8,a15r9,a15r10,ha]
      refine callD_det hL rfl rfl ?_
      simp only [go_sem]
      by_cases hb : a < 7
      · simp only [go_sem,hb]
        exact Cl.fin rfl ⟨by rw [if_pos (by omega)], rfl⟩
      · simp only [go_sem,hb]
        exact Cl.fin rfl ⟨by rw [if_neg (by omega)], rfl⟩
    · simp only [go_sem,a15,a15r0,a15r1,a15r2,a15r3,a15r4,a15r5,a15r6,a15r7,a15r8,a15r9,a15r10,ha]
      exact Cl.fin rfl ⟨by first | rfl | rw [if_neg (by omega)], rfl⟩
  rw [if_neg h3]
  have e3 : (k == 3) = false := by simp [h3]
  simp only [go_sem,a15,a15r0,a15r1,a15r2,a15r3,a15r4,a15r5,a15r6,a15r7,a15r8,a15r9,a15r10,e0,e1,e2,e3]
  exact Cl.fin rfl ⟨rfl, rfl⟩
theorem rof_ok (k a d : Int) (h : calE k a = 0) (hd : okD d) : AFn Tryz.prog 17 [.agg [.int .i64 k, .int .i64 a], .int .i64 d] [] (fun v rs => v = .int .i64 (ofP k a d) ∧ rs = []) := by
  refine afn Tryz.func17 a17_ok (by simp [a17]) ?_
  have hk := calE_kind h
  have hm := mon_bd hd
  have hd1 := hd.1
  have hd2 := hd.2
  unfold ofP
  by_cases h0 : k = 0
  · subst h0
    rw [if_pos rfl]
    simp only [go_sem,a17,a17r0,a17r1,a17r2,a17r3,a17r4,a17r5,a17r6,a17r7,a17r8,a17r9,a17r10,a17r11]
    refine callC_det (rMonth_ok d) rfl rfl ?_
    simp only [go_sem]
    exact Cl.fin rfl ⟨rfl, rfl⟩
  rw [if_neg h0]
  have e0 : (k == 0) = false := by simp [h0]
  by_cases h1 : k = 1
  · subst h1
    rw [if_pos rfl]
    have hD := rDate_ok d
    rw [if_pos hd] at hD
    simp only [go_sem,a17,a17r0,a17r1,a17r2,a17r3,a17r4,a17r5,a17r6,a17r7,a17r8,a17r9,a17r10,a17r11]
    refine callC_det (rMonth_ok d) rfl rfl ?_
    simp only [go_sem]
    refine callC_det hD rfl rfl ?_
    simp only [go_sem]
    rw [wrap_i64 (x := 2 * monthP d) (by omega) (by omega)]
    by_cases hg : (dateM d).2 + 1 > 15
    · rw [if_pos (by omega)]
      simp only [go_sem,hg]
      rw [wrap_i64 (x := 2 * monthP d + 1) (by omega) (by omega)]
      exact Cl.fin rfl ⟨rfl, rfl⟩
    · rw [if_neg (by omega)]
      simp only [go_sem,hg]
      exact Cl.fin rfl ⟨by rw [Int.add_zero], rfl⟩
  rw [if_neg h1]
  have e1 : (k == 1) = false := by simp [h1]
  have hl : lenC k = 14 ∨ lenC k = 7 := by unfold lenC; split <;> simp
  have hmi : 0 ≤ misC k a ∧ misC k a < lenC k := ⟨Int.emod_nonneg _ (by omega), Int.emod_lt_of_pos _ (by omega)⟩
  have hla : 0 ≤ lenC k - a := by unfold lenC; split <;> omega
  have hmis : (lenC k - a).tmod (lenC k) = misC k a := Int.tmod_eq_emod_of_nonneg hla
  have hdiv : 0 ≤ (d + misC k a) / lenC k ∧ (d + misC k a) / lenC k ≤ 84020 := by
    rcases hl with h | h <;> (have h9 := hmi; rw [h] at h9 ⊢; omega)
  simp only [go_sem,a17,a17r0,a17r1,a17r2,a17r3,a17r4,a17r5,a17r6,a17r7,a17r8,a17r9,a17r10,a17r11,e0,e1]
  refine callC_det (rlength_ok k a) rfl rfl ?_
  simp only [go_sem]
  rw [wrap_i64 (x := lenC k - a) (by omega) (by omega), hmis, wrap_i64 (x := d + misC k a) (by omega) (by omega), Int.tdiv_eq_ediv_of_nonneg (by omega), wrap_i64 (x := (d + misC k a) / lenC k) (by omega) (by omega)]
  exact ⟨by omega, by omega, Cl.fin rfl ⟨rfl, rfl⟩⟩
theorem rOf_ok (k a d : Int) : AFn Tryz.prog 6 [.agg [.int .i64 k, .int .i64 a], .int .i64 d] []
    (fun v rs => v = (if calE k a ≠ 0 then .tup [.int .i64 0, .int .i64 (calE k a)] else if okD d then .tup [.int .i64 (ofP k a d), .int .i64 0] else .tup [.int .i64 0, .int .i64 2]) ∧ rs = []) := by
  refine afn Tryz.func6 a6_ok (by simp [a6]) ?_
  simp only [go_sem,a6,a6r0,a6r1,a6r2,a6r3,a6r4,a6r5,a6r6]
  refine callC_det (rpvalid_ok k a) rfl rfl ?_
  simp only [go_sem]
  by_cases h : calE k a = 0
  rotate_left
  · have hb : (calE k a != 0) = true := by simp [h]
    rw [if_pos h]
    simp only [go_sem,hb]
    exact Cl.fin rfl ⟨rfl, rfl⟩
  have hb : (calE k a != 0) = false := by simp [h]
  rw [if_neg (fun e => e h)]
  simp only [go_sem,hb]
  refine callC_det (rInDays_ok d) rfl rfl ?_
  by_cases hd : okD d
  · rw [if_pos hd]
    simp only [go_sem,hd]
    refine callC_det (rof_ok k a d h hd) rfl rfl ?_
    simp only [go_sem]
    exact Cl.fin rfl ⟨rfl, rfl⟩
  · rw [if_neg hd]
    simp only [go_sem,hd]
    exact Cl.fin rfl ⟨rfl, rfl⟩
theorem rCount_ok (k a : Int) : AFn Tryz.prog 18 [.agg [.int .i64 k, .int .i64 a]] [] (fun v rs => v = .int .i64 (cntP k a) ∧ rs = []) := by
  refine afn Tryz.func18 a18_ok (by simp [a18]) ?_
  unfold cntP
  simp only [go_sem,a18,a18r0,a18r1,a18r2,a18r3]
  refine callC_det (rpvalid_ok k a) rfl rfl ?_
  by_cases h : calE k a = 0
  rotate_left
  · have hb : (calE k a != 0) = true := by simp [h]
    rw [if_neg h]
    simp only [go_sem,hb]
    exact Cl.fin rfl ⟨rfl, rfl⟩
  have hb : (calE k a != 0) = false := by simp [h]
  rw [if_pos h]
  have hbd := ofP_bd h maxD
  simp only [go_sem,hb]
  refine callC_det (rof_ok k a 84005 h maxD) rfl rfl ?_
  simp only [go_sem]
  rw [wrap_i64 (x := ofP k a 84005 + 1) (by omega) (by omega)]
  exact Cl.fin rfl ⟨rfl, rfl⟩
set_option maxHeartbeats 1000000 in
theorem rSpan_ok (k a n : Int) (hn : -9223372036854775808 ≤ n) (hn2 : n ≤ 9223372036854775807) : AFn Tryz.prog 8 [.agg [.int .i64 k, .int .i64 a], .int .i64 n] []
    (fun v rs => v = (if calE k a ≠ 0 then .tup [.agg [.int .i64 0, .int .i64 0], .int .i64 (calE k a)] else if 0 ≤ n ∧ n < cntP k a then .tup [.agg [.int .i64 (spP k a n).1, .int .i64 (spP k a n).2], .int .i64 0] else .tup [.agg [.int .i64 0, .int .i64 0], .int .i64 2]) ∧ rs = []) := by
  refine afn Tryz.func8 a8_ok (by simp [a8]) ?_
  simp only [go_sem,a8,a8r0,a8r1,a8r2,a8r3,a8r4,a8r5,a8r6,a8r7,a8r8,a8r9,a8r10,a8r11,a8r12,a8r13,a8r14,a8r15,a8r16,a8r17,a8r18,a8r19]
  refine callC_det (rpvalid_ok k a) rfl rfl ?_
  simp only [go_sem]
  by_cases h : calE k a = 0
  rotate_left
  · have hb : (calE k a != 0) = true := by simp [h]
    rw [if_pos h]
    simp only [go_sem,hb]
    exact Cl.fin rfl ⟨rfl, rfl⟩
  have hb : (calE k a != 0) = false := by simp [h]
  rw [if_neg (fun e => e h)]
  have hk := calE_kind h
  have hc := cnt_kind h
  by_cases h1 : n < 0
  · rw [if_neg (fun e => by have := e.1; omega)]
    simp only [go_sem,hb,h1]
    exact Cl.fin rfl ⟨rfl, rfl⟩
  simp only [go_sem,hb,h1]
  refine callC_det (rCount_ok k a) rfl rfl ?_
  simp only [go_sem]
  by_cases h2 : n ≥ cntP k a
  · rw [if_neg (fun e => by have := e.2; omega)]
    simp only [go_sem,h2]
    exact Cl.fin rfl ⟨rfl, rfl⟩
  rw [if_pos ⟨by omega, by omega⟩]
  simp only [go_sem,h2]
  unfold spP
  by_cases h0 : k = 0
  · subst h0
    rw [if_pos rfl] at hc
    have hM : okM n := ⟨by omega, by omega⟩
    have hb := first_bd hM
    have hF := rFirst_ok n
    rw [if_pos hM] at hF
    simp only [go_sem]
    refine callC_det hF rfl rfl ?_
    simp only [go_sem]
    refine callC_det (rLength_ok n) rfl rfl ?_
    simp only [go_sem]
    rw [wrap_i64 (x := firstP n + lengthP n) (by omega) (by omega), wrap_i64 (x := firstP n + lengthP n - 1) (by omega) (by omega), show max (firstP n) 0 = firstP n from by omega, show min (firstP n + lengthP n - 1) 84005 = firstP n + lengthP n - 1 from by omega]
    exact Cl.fin rfl ⟨rfl, rfl⟩
  rw [if_neg h0] at hc
  have e0 : (k == 0) = false := by simp [h0]
  by_cases h3 : k = 1
  · subst h3
    rw [if_pos rfl] at hc
    have hM : okM (n / 2) := ⟨by omega, by omega⟩
    have hb := first_bd hM
    have hF := rFirst_ok (n / 2)
    rw [if_pos hM] at hF
    have hdv : n.tdiv 2 = n / 2 := Int.tdiv_eq_ediv_of_nonneg (by omega)
    have hmd : n.tmod 2 = n % 2 := Int.tmod_eq_emod_of_nonneg (by omega)
    have hwd : IntKind.i64.wrap (n / 2) = n / 2 := wrap_i64 (by omega) (by omega)
    simp only [go_sem,hdv,hmd,hwd]
    refine ⟨by decide, ?_⟩
    refine callC_det hF rfl rfl ?_
    simp only [go_sem]
    refine ⟨by decide, ?_⟩
    by_cases hp : n % 2 = 0
    · have hpb : (n.tmod 2 == 1) = false := by rw [hmd, hp]; rfl
      simp only [go_sem,hpb,hp]
      rw [wrap_i64 (x := firstP (n / 2) + 14) (by omega) (by omega), show max (firstP (n / 2)) 0 = firstP (n / 2) from by omega, show min (firstP (n / 2) + 14) 84005 = firstP (n / 2) + 14 from by omega]
      exact Cl.fin rfl ⟨rfl, rfl⟩
    · have hpb : (n.tmod 2 == 1) = true := by rw [hmd, show n % 2 = 1 from by omega]; rfl
      simp only [go_sem,hpb,hp,hdv,hwd]
      refine ⟨by decide, ?_⟩
      refine callC_det (rLength_ok (n / 2)) rfl rfl ?_
      simp only [go_sem]
      rw [wrap_i64 (x := firstP (n / 2) + 15) (by omega) (by omega), wrap_i64 (x := firstP (n / 2) + lengthP (n / 2)) (by omega) (by omega), wrap_i64 (x := firstP (n / 2) + lengthP (n / 2) - 1) (by omega) (by omega), show max (firstP (n / 2) + 15) 0 = firstP (n / 2) + 15 from by omega, show min (firstP (n / 2) + lengthP (n / 2) - 1) 84005 = firstP (n / 2) + lengthP (n / 2) - 1 from by omega]
      exact Cl.fin rfl ⟨rfl, rfl⟩
  rw [if_neg h3] at hc
  have e1 : (k == 1) = false := by simp [h3]
  have hl : lenC k = 14 ∨ lenC k = 7 := by unfold lenC; split <;> simp
  have hmi : 0 ≤ misC k a ∧ misC k a < lenC k := ⟨Int.emod_nonneg _ (by omega), Int.emod_lt_of_pos _ (by omega)⟩
  have hla : 0 ≤ lenC k - a := by unfold lenC; split <;> omega
  have hmis : (lenC k - a).tmod (lenC k) = misC k a := Int.tmod_eq_emod_of_nonneg hla
  have hnb : n * lenC k ≤ 84040 ∧ 0 ≤ n * lenC k := by
    rcases hl with h9 | h9 <;> (rw [h9] at hc hmi ⊢; omega)
  simp only [go_sem,e0,e1]
  refine callC_det (rlength_ok k a) rfl rfl ?_
  simp only [go_sem]
  rw [wrap_i64 (x := lenC k - a) (by omega) (by omega), hmis, wrap_i64 (x := n * lenC k) (by omega) (by omega), wrap_i64 (x := n * lenC k - misC k a) (by omega) (by omega), wrap_i64 (x := n * lenC k - misC k a + lenC k) (by omega) (by omega), wrap_i64 (x := n * lenC k - misC k a + lenC k - 1) (by omega) (by omega)]
  rw [if_neg h0, if_neg h3]
  exact ⟨by omega, Cl.fin rfl ⟨rfl, rfl⟩⟩

end Go.Proofs.YtlanehcihoiglaaGreatDoor
