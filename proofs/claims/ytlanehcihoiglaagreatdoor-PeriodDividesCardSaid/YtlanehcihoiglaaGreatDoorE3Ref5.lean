/- The reference: the days that valid rules name. -/
import Derived.Test.YtlanehcihoiglaaGreatDoorE3Ref4
import Derived.Test.YtlanehcihoiglaaGreatDoorE3WPl
set_option linter.unusedSimpArgs false
set_option linter.unusedVariables false
set_option linter.unusedSectionVars false
namespace Go.Proofs.YtlanehcihoiglaaGreatDoor
open Go Go.Abs
open Go.RowKit (Below)
set_option linter.unusedSimpArgs false

/-- the day that the reference answers -/
def rnX (h : Hol) (y : Int) : Int := (nmD h y).getD 0
def rnV (h : Hol) (y : Int) : AVal := .tup [.int .i64 (rnX h y), .bool (namO h y).isSome]
theorem rn_none {h : Hol} {y : Int} (hB : nmB h y = none) : rnV h y = .tup [.int .i64 0, .bool false] := by
  rw [rnV, rnX, namO, nmD, hB]; rfl
theorem rn_some {h : Hol} {y D X : Int} (hB : nmB h y = some D) (hX : mvP h.moved D = X) : rnV h y = .tup [.int .i64 X, .bool (decide (okD X))] := by
  rw [rnV, rnX, namO, nmD, hB, Option.map_some, hX, Option.filter_some, Option.getD_some]
  by_cases ho : okD X
  · rw [if_pos (by simpa using ho)]; simp [ho]
  · rw [if_neg (by simpa using ho)]; simp [ho]

theorem rnamed_ok (h : Hol) (y : Int) (hr : ruleP h = true) (hy : okY y) : AFn Tryz.prog 87 [.agg (Cel.c h), .int .i64 y] [] (fun v rs => v = rnV h y ∧ rs = []) := by
  refine afn Tryz.func87 a87_ok (by simp [a87]) ?_
  obtain ⟨hy0, hy1⟩ := hy
  obtain ⟨k, m, d, wd, o, b⟩ := h
  rw [ruleP_iff] at hr
  rw [cel_hol]
  rcases hr with ⟨rfl, h1, h2, rfl, rfl, h3, h4⟩ | ⟨rfl, h1, h2, rfl, rfl, rfl⟩ | ⟨rfl, h1, h2, h3, h4, h5, h6, h7⟩

  · have hL := lenP_bd (y := y) h1 h2
    have hF := numP_bd (y := y) ⟨hy0, hy1⟩ h1 h2 (d := d) (by omega) (by have : lens29 m ≤ 31 := by rw [← lens29_eq h1 h2]; exact (lenP_bd h1 h2).2
                                                                         omega)
    simp only [go_sem,a87,a87r0,a87r1,a87r2,a87r3,a87r4,a87r5,a87r6,a87r7,a87r8,a87r9,a87r10,a87r11,a87r12,a87r13,a87r14,a87r15,a87r16,a87r17,a87r18,a87r19,a87r20,a87r21,a87r22,a87r23]
    refine callD_det (rlen_ok y m (by omega) h1 h2) rfl rfl ?_
    simp only [go_sem]
    refine condC_intro ?_ ?_ <;> intro hg1 <;> simp only [decide_eq_true_eq,decide_eq_false_iff_not,beq_iff_eq,beq_eq_false_iff_ne,bne_iff_ne,bne_eq_false_iff_eq,Bool.not_eq_true',Bool.not_eq_false',Int.not_lt,Int.not_le,ne_eq,Bool.and_eq_true,Bool.or_eq_true,Bool.or_eq_false_iff,Bool.and_eq_false_iff] at hg1 <;> simp only [go_sem,a87,a87r0,a87r1,a87r2,a87r3,a87r4,a87r5,a87r6,a87r7,a87r8,a87r9,a87r10,a87r11,a87r12,a87r13,a87r14,a87r15,a87r16,a87r17,a87r18,a87r19,a87r20,a87r21,a87r22,a87r23]
    · exact Cl.fin rfl ⟨(rn_none (by rw [nmB, if_pos rfl, if_neg (by simp only; omega)])).symm, rfl⟩
    · have hB : nmB ⟨0, m, d, 0, 0, b⟩ y = some (numP y m d) := by rw [nmB, if_pos rfl, if_pos hg1]
      refine callC_det (rraw_ok y m d (by omega) (by omega) h1 h2 (by omega) (by omega)) rfl rfl ?_
      generalize numP y m d = D at *
      simp only [go_sem]
      have hwd := wdP_bd D
      cases b
      · simp only [go_sem]
        refine callC_det (rInDays_ok D) rfl rfl ?_
        simp only [go_sem]
        exact Cl.fin rfl ⟨(rn_some hB (mvP_false _)).symm, rfl⟩
      · simp only [go_sem]
        refine callC_det (rShown_ok D (by omega) (by omega)) rfl rfl ?_
        simp only [go_sem]
        refine condC_intro ?_ ?_ <;> intro hg5 <;> simp only [decide_eq_true_eq,decide_eq_false_iff_not,beq_iff_eq,beq_eq_false_iff_ne,bne_iff_ne,bne_eq_false_iff_eq,Bool.not_eq_true',Bool.not_eq_false',Int.not_lt,Int.not_le,ne_eq,Bool.and_eq_true,Bool.or_eq_true,Bool.or_eq_false_iff,Bool.and_eq_false_iff] at hg5 <;> simp only [go_sem,a87,a87r0,a87r1,a87r2,a87r3,a87r4,a87r5,a87r6,a87r7,a87r8,a87r9,a87r10,a87r11,a87r12,a87r13,a87r14,a87r15,a87r16,a87r17,a87r18,a87r19,a87r20,a87r21,a87r22,a87r23]
        · refine callC_det (rShown_ok D (by omega) (by omega)) rfl rfl ?_
          simp only [go_sem]
          rw [wrap_i64 (x := 7 - wdP D) (by omega) (by omega), wrap_i64 (x := D + (7 - wdP D)) (by omega) (by omega)]
          refine callC_det (rInDays_ok (D + (7 - wdP D))) rfl rfl ?_
          simp only [go_sem]
          exact Cl.fin rfl ⟨(rn_some hB (mvP_true hg5)).symm, rfl⟩
        · refine callC_det (rInDays_ok D) rfl rfl ?_
          simp only [go_sem]
          exact Cl.fin rfl ⟨(rn_some hB (mvP_not hg5)).symm, rfl⟩
  · have hB : nmB ⟨1, 0, 0, 0, o, b⟩ y = some (easD y + o) := by rw [nmB, if_neg (by simp), if_pos rfl]
    have hF : -2000 ≤ easD y ∧ easD y ≤ 201000 := by
      have a := easD_bd (y := y) ⟨hy0, hy1⟩
      have b := numP_bd (y := y) (m := 3) (d := 22) ⟨hy0, hy1⟩ (by omega) (by omega) (by omega) (by omega)
      have c := numP_bd (y := y) (m := 4) (d := 25) ⟨hy0, hy1⟩ (by omega) (by omega) (by omega) (by omega)
      omega
    have hE := reaster_ok y ⟨hy0, hy1⟩
    rw [show numP y (eaN y / 31) (eaN y % 31 + 1) = easD y from rfl] at hE
    simp only [go_sem,a87,a87r0,a87r1,a87r2,a87r3,a87r4,a87r5,a87r6,a87r7,a87r8,a87r9,a87r10,a87r11,a87r12,a87r13,a87r14,a87r15,a87r16,a87r17,a87r18,a87r19,a87r20,a87r21,a87r22,a87r23]
    refine callD_det hE rfl rfl ?_
    simp only [go_sem]
    rw [wrap_i64 (x := easD y + o) (by omega) (by omega)]
    obtain ⟨D, hD⟩ : ∃ D, D = easD y + o := ⟨_, rfl⟩
    rw [← hD] at hB ⊢
    replace hF : -2100 ≤ D ∧ D ≤ 201100 := by omega
    clear hD
    have hwd := wdP_bd D
    cases b
    · simp only [go_sem]
      refine callC_det (rInDays_ok D) rfl rfl ?_
      simp only [go_sem]
      exact Cl.fin rfl ⟨(rn_some hB (mvP_false _)).symm, rfl⟩
    · simp only [go_sem]
      refine callC_det (rShown_ok D (by omega) (by omega)) rfl rfl ?_
      simp only [go_sem]
      refine condC_intro ?_ ?_ <;> intro hg5 <;> simp only [decide_eq_true_eq,decide_eq_false_iff_not,beq_iff_eq,beq_eq_false_iff_ne,bne_iff_ne,bne_eq_false_iff_eq,Bool.not_eq_true',Bool.not_eq_false',Int.not_lt,Int.not_le,ne_eq,Bool.and_eq_true,Bool.or_eq_true,Bool.or_eq_false_iff,Bool.and_eq_false_iff] at hg5 <;> simp only [go_sem,a87,a87r0,a87r1,a87r2,a87r3,a87r4,a87r5,a87r6,a87r7,a87r8,a87r9,a87r10,a87r11,a87r12,a87r13,a87r14,a87r15,a87r16,a87r17,a87r18,a87r19,a87r20,a87r21,a87r22,a87r23]
      · refine callC_det (rShown_ok D (by omega) (by omega)) rfl rfl ?_
        simp only [go_sem]
        rw [wrap_i64 (x := 7 - wdP D) (by omega) (by omega), wrap_i64 (x := D + (7 - wdP D)) (by omega) (by omega)]
        refine callC_det (rInDays_ok (D + (7 - wdP D))) rfl rfl ?_
        simp only [go_sem]
        exact Cl.fin rfl ⟨(rn_some hB (mvP_true hg5)).symm, rfl⟩
      · refine callC_det (rInDays_ok D) rfl rfl ?_
        simp only [go_sem]
        exact Cl.fin rfl ⟨(rn_some hB (mvP_not hg5)).symm, rfl⟩
  · have hL := lenP_bd (y := y) h1 h2
    have hF := numP_bd (y := y) ⟨hy0, hy1⟩ h1 h2 (d := 1) (by omega) (by omega)
    have hI : 0 ≤ nthI y m wd ∧ nthI y m wd ≤ 6 := by unfold nthI; omega
    have hwF := wdP_bd (numP y m 1)
    have hIe : nthI y m wd = (wd - wdP (numP y m 1) + 7) % 7 := rfl
    have hXe : nthX y m wd d = if d = -1 then nthI y m wd + (lenP y m - 1 - nthI y m wd) / 7 * 7 else nthI y m wd + 7 * (d - 1) := rfl
    have hBe : nmB ⟨2, m, d, wd, o, b⟩ y = if nthX y m wd d < lenP y m then some (numP y m 1 + nthX y m wd d + o) else none := by rw [nmB, if_neg (by simp), if_neg (by simp)]
    simp only [go_sem,a87,a87r0,a87r1,a87r2,a87r3,a87r4,a87r5,a87r6,a87r7,a87r8,a87r9,a87r10,a87r11,a87r12,a87r13,a87r14,a87r15,a87r16,a87r17,a87r18,a87r19,a87r20,a87r21,a87r22,a87r23]
    refine callC_det (rraw_ok y m 1 (by omega) (by omega) h1 h2 (by omega) (by omega)) rfl rfl ?_
    simp only [go_sem]
    refine callC_det (rlen_ok y m (by omega) h1 h2) rfl rfl ?_
    simp only [go_sem]
    refine callD_det (rShown_ok (numP y m 1) (by omega) (by omega)) rfl rfl ?_
    generalize wdP (numP y m 1) = W at hwF hIe ⊢
    generalize numP y m 1 = F at hF hBe ⊢
    generalize lenP y m = L at hL hXe hBe ⊢
    generalize nthI y m wd = I at hI hIe hXe ⊢
    simp only [go_sem]
    rw [wrap_i64 (x := wd - W) (by omega) (by omega), wrap_i64 (x := wd - W + 7) (by omega) (by omega), Int.tmod_eq_emod_of_nonneg (a := wd - W + 7) (by omega), ← hIe, wrap_i64 (x := F + I) (by omega) (by omega)]
    refine ⟨by decide, ?_⟩
    refine condC_cut (fun env rows => ∃ N : Int, 1 ≤ N ∧ N ≤ 5 ∧ nthX y m wd d = I + 7 * (N - 1) ∧ slot env 2 = .ref 0 1 0 0 ∧ slot env 6 = .int .i64 (F + I) ∧ slot env 7 = .int .i64 F ∧ slot env 8 = .int .i64 L ∧ slot env 9 = .int .i64 N ∧ rows = [.live 53 6 [[.int .i64 2, .int .i64 m, .int .i64 d, .int .i64 wd, .int .i64 o, .bool b]]]) ?_ ?_ ?_
    · intro hd
      simp only [decide_eq_true_eq, decide_eq_false_iff_not, beq_iff_eq, beq_eq_false_iff_ne, bne_iff_ne, bne_eq_false_iff_eq, Bool.not_eq_true', Bool.not_eq_false', Int.not_lt, Int.not_le, ne_eq, Bool.and_eq_true, Bool.or_eq_true, Bool.or_eq_false_iff, Bool.and_eq_false_iff] at hd
      rw [if_pos hd] at hXe
      simp only [go_sem,a87,a87r0,a87r1,a87r2,a87r3,a87r4,a87r5,a87r6,a87r7,a87r8,a87r9,a87r10,a87r11,a87r12,a87r13,a87r14,a87r15,a87r16,a87r17,a87r18,a87r19,a87r20,a87r21,a87r22,a87r23]
      rw [wrap_i64 (x := F + I + 28) (by omega) (by omega), wrap_i64 (x := F + L) (by omega) (by omega)]
      refine condC_intro ?_ ?_ <;> intro hg1 <;> simp only [decide_eq_true_eq,decide_eq_false_iff_not,beq_iff_eq,beq_eq_false_iff_ne,bne_iff_ne,bne_eq_false_iff_eq,Bool.not_eq_true',Bool.not_eq_false',Int.not_lt,Int.not_le,ne_eq,Bool.and_eq_true,Bool.or_eq_true,Bool.or_eq_false_iff,Bool.and_eq_false_iff] at hg1 <;> simp only [go_sem,a87,a87r0,a87r1,a87r2,a87r3,a87r4,a87r5,a87r6,a87r7,a87r8,a87r9,a87r10,a87r11,a87r12,a87r13,a87r14,a87r15,a87r16,a87r17,a87r18,a87r19,a87r20,a87r21,a87r22,a87r23]
      · exact ⟨4, by omega, by omega, by omega, by simp⟩
      · exact ⟨5, by omega, by omega, by omega, by simp⟩
    · intro hd
      simp only [decide_eq_true_eq, decide_eq_false_iff_not, beq_iff_eq, beq_eq_false_iff_ne, bne_iff_ne, bne_eq_false_iff_eq, Bool.not_eq_true', Bool.not_eq_false', Int.not_lt, Int.not_le, ne_eq, Bool.and_eq_true, Bool.or_eq_true, Bool.or_eq_false_iff, Bool.and_eq_false_iff] at hd
      rw [if_neg hd] at hXe
      simp only [go_sem,a87,a87r0,a87r1,a87r2,a87r3,a87r4,a87r5,a87r6,a87r7,a87r8,a87r9,a87r10,a87r11,a87r12,a87r13,a87r14,a87r15,a87r16,a87r17,a87r18,a87r19,a87r20,a87r21,a87r22,a87r23]
      exact ⟨d, by omega, by omega, by omega, by simp⟩
    · rintro env rows ⟨N, n1, n2, hX, s2, s6, s7, s8, s9, rfl⟩
      rw [hX] at hBe
      simp only [go_sem,a87,a87r0,a87r1,a87r2,a87r3,a87r4,a87r5,a87r6,a87r7,a87r8,a87r9,a87r10,a87r11,a87r12,a87r13,a87r14,a87r15,a87r16,a87r17,a87r18,a87r19,a87r20,a87r21,a87r22,a87r23,s2,s6,s7,s8,s9]
      rw [wrap_i64 (x := N - 1) (by omega) (by omega), wrap_i64 (x := 7 * (N - 1)) (by omega) (by omega), wrap_i64 (x := F + I + 7 * (N - 1)) (by omega) (by omega), wrap_i64 (x := F + L) (by omega) (by omega)]
      refine condC_intro ?_ ?_ <;> intro hg1 <;> simp only [decide_eq_true_eq,decide_eq_false_iff_not,beq_iff_eq,beq_eq_false_iff_ne,bne_iff_ne,bne_eq_false_iff_eq,Bool.not_eq_true',Bool.not_eq_false',Int.not_lt,Int.not_le,ne_eq,Bool.and_eq_true,Bool.or_eq_true,Bool.or_eq_false_iff,Bool.and_eq_false_iff] at hg1 <;> simp only [go_sem,a87,a87r0,a87r1,a87r2,a87r3,a87r4,a87r5,a87r6,a87r7,a87r8,a87r9,a87r10,a87r11,a87r12,a87r13,a87r14,a87r15,a87r16,a87r17,a87r18,a87r19,a87r20,a87r21,a87r22,a87r23,s2,s6,s7,s8,s9]
      · rw [if_neg (by omega)] at hBe
        exact Cl.fin rfl ⟨(rn_none hBe).symm, rfl⟩
      · rw [if_pos (by omega)] at hBe
        rw [wrap_i64 (x := F + I + 7 * (N - 1) + o) (by omega) (by omega)]
        obtain ⟨D, hD⟩ : ∃ D, D = F + I + 7 * (N - 1) + o := ⟨_, rfl⟩
        have hB : nmB ⟨2, m, d, wd, o, b⟩ y = some D := by rw [hBe, hD]; congr 1; omega
        rw [← hD]
        replace hF : -2100 ≤ D ∧ D ≤ 201200 := by omega
        clear hD hBe hXe
        have hwd := wdP_bd D
        cases b
        · simp only [go_sem,s2,s6,s7,s8,s9]
          refine callC_det (rInDays_ok D) rfl rfl ?_
          simp only [go_sem]
          exact Cl.fin rfl ⟨(rn_some hB (mvP_false _)).symm, rfl⟩
        · simp only [go_sem,s2,s6,s7,s8,s9]
          refine callC_det (rShown_ok D (by omega) (by omega)) rfl rfl ?_
          simp only [go_sem]
          refine condC_intro ?_ ?_ <;> intro hg5 <;> simp only [decide_eq_true_eq,decide_eq_false_iff_not,beq_iff_eq,beq_eq_false_iff_ne,bne_iff_ne,bne_eq_false_iff_eq,Bool.not_eq_true',Bool.not_eq_false',Int.not_lt,Int.not_le,ne_eq,Bool.and_eq_true,Bool.or_eq_true,Bool.or_eq_false_iff,Bool.and_eq_false_iff] at hg5 <;> simp only [go_sem,a87,a87r0,a87r1,a87r2,a87r3,a87r4,a87r5,a87r6,a87r7,a87r8,a87r9,a87r10,a87r11,a87r12,a87r13,a87r14,a87r15,a87r16,a87r17,a87r18,a87r19,a87r20,a87r21,a87r22,a87r23]
          · refine callC_det (rShown_ok D (by omega) (by omega)) rfl rfl ?_
            simp only [go_sem]
            rw [wrap_i64 (x := 7 - wdP D) (by omega) (by omega), wrap_i64 (x := D + (7 - wdP D)) (by omega) (by omega)]
            refine callC_det (rInDays_ok (D + (7 - wdP D))) rfl rfl ?_
            simp only [go_sem]
            exact Cl.fin rfl ⟨(rn_some hB (mvP_true hg5)).symm, rfl⟩
          · refine callC_det (rInDays_ok D) rfl rfl ?_
            simp only [go_sem]
            exact Cl.fin rfl ⟨(rn_some hB (mvP_not hg5)).symm, rfl⟩

end Go.Proofs.YtlanehcihoiglaaGreatDoor
