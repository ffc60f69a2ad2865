/- The reference: which rules are valid, and the days that they name. -/
import Derived.Test.YtlanehcihoiglaaGreatDoorE3Wk
import Derived.Test.YtlanehcihoiglaaGreatDoorAbs41
set_option linter.unusedSimpArgs false
set_option linter.unusedVariables false
set_option linter.unusedSectionVars false
namespace Go.Proofs.YtlanehcihoiglaaGreatDoor
open Go Go.Abs
open Go.RowKit (Below)
set_option linter.unusedSimpArgs false

theorem lens29_eq {m : Int} (h1 : 1 ≤ m) (h2 : m ≤ 12) : lenP 2000 m = lens29 m := by
  obtain rfl | rfl | rfl | rfl | rfl | rfl | rfl | rfl | rfl | rfl | rfl | rfl : m = 1 ∨ m = 2 ∨ m = 3 ∨ m = 4 ∨ m = 5 ∨ m = 6 ∨ m = 7 ∨ m = 8 ∨ m = 9 ∨ m = 10 ∨ m = 11 ∨ m = 12 := by omega
  all_goals rfl
theorem rrule_ok (h : Hol) : AFn Tryz.prog 58 [.agg (Cel.c h)] [] (fun v rs => v = .bool (ruleP h) ∧ rs = []) := by
  obtain ⟨k, m, d, wd, o, b⟩ := h
  rw [cel_hol]
  by_cases hk : k = 0 ∧ 1 ≤ m ∧ m ≤ 12 ∧ 1 ≤ d
  · obtain ⟨rfl, h1, h2, h3⟩ := hk
    refine afn Tryz.func58 a58_ok (by simp [a58]) ?_
    have e1 := lens29_eq h1 h2
    have hl := rlen_ok 2000 m (by omega) h1 h2
    rw [e1] at hl
    simp only [go_sem,a58,a58r0,a58r1,a58r2,a58r3,a58r4,a58r5,a58r6,a58r7,a58r8,h1,h2,h3]
    refine callD_det hl rfl rfl ?_
    simp only [go_sem]
    repeat' (first | (refine grdC_intro ?_ ?_ <;> intro hg <;> (have hp := hg; try simp only [decide_eq_true_eq,decide_eq_false_iff_not,beq_iff_eq,beq_eq_false_iff_ne,bne_iff_ne,bne_eq_false_iff_eq,Bool.not_eq_true',Bool.not_eq_false',Int.not_lt,Int.not_le,ne_eq,Bool.and_eq_true,Bool.or_eq_true,Bool.or_eq_false_iff,Bool.and_eq_false_iff] at hp) <;> (first | omega | (simp only [go_sem,hg,a58,a58r0,a58r1,a58r2,a58r3,a58r4,a58r5,a58r6,a58r7,a58r8]; clear hg))) | (refine grdD_intro ?_ ?_ <;> intro hg <;> (have hp := hg; try simp only [decide_eq_true_eq,decide_eq_false_iff_not,beq_iff_eq,beq_eq_false_iff_ne,bne_iff_ne,bne_eq_false_iff_eq,Bool.not_eq_true',Bool.not_eq_false',Int.not_lt,Int.not_le,ne_eq,Bool.and_eq_true,Bool.or_eq_true,Bool.or_eq_false_iff,Bool.and_eq_false_iff] at hp) <;> (first | omega | (simp only [go_sem,hg,a58,a58r0,a58r1,a58r2,a58r3,a58r4,a58r5,a58r6,a58r7,a58r8]; clear hg))) | (refine condC_intro ?_ ?_ <;> intro hg <;> (have hp := hg; try simp only [decide_eq_true_eq,decide_eq_false_iff_not,beq_iff_eq,beq_eq_false_iff_ne,bne_iff_ne,bne_eq_false_iff_eq,Bool.not_eq_true',Bool.not_eq_false',Int.not_lt,Int.not_le,ne_eq,Bool.and_eq_true,Bool.or_eq_true,Bool.or_eq_false_iff,Bool.and_eq_false_iff] at hp) <;> (first | omega | (simp only [go_sem,hg,a58,a58r0,a58r1,a58r2,a58r3,a58r4,a58r5,a58r6,a58r7,a58r8]; clear hg))) | (refine condW_intro ?_ ?_ <;> intro hg <;> (have hp := hg; try simp only [decide_eq_true_eq,decide_eq_false_iff_not,beq_iff_eq,beq_eq_false_iff_ne,bne_iff_ne,bne_eq_false_iff_eq,Bool.not_eq_true',Bool.not_eq_false',Int.not_lt,Int.not_le,ne_eq,Bool.and_eq_true,Bool.or_eq_true,Bool.or_eq_false_iff,Bool.and_eq_false_iff] at hp) <;> (first | omega | (simp only [go_sem,hg,a58,a58r0,a58r1,a58r2,a58r3,a58r4,a58r5,a58r6,a58r7,a58r8]; clear hg))))
    all_goals (refine Cl.fin rfl ⟨congrArg AVal.bool ?_, rfl⟩; rw [Bool.eq_iff_iff, ruleP_iff]; simp only [decide_eq_true_eq, decide_eq_false_iff_not, beq_iff_eq, beq_eq_false_iff_ne, bne_iff_ne, bne_eq_false_iff_eq, Bool.not_eq_true', Bool.not_eq_false', Int.not_lt, Int.not_le, ne_eq, Bool.and_eq_true, Bool.or_eq_true, Bool.or_eq_false_iff, Bool.and_eq_false_iff, Bool.false_eq_true, false_iff, true_iff, iff_true, iff_false, and_true, true_and] at *; omega)
  · refine afn Tryz.func58 a58_ok (by simp [a58]) ?_
    simp only [go_sem,a58,a58r0,a58r1,a58r2,a58r3,a58r4,a58r5,a58r6,a58r7,a58r8]
    repeat' (first | (refine grdC_intro ?_ ?_ <;> intro hg <;> (have hp := hg; try simp only [decide_eq_true_eq,decide_eq_false_iff_not,beq_iff_eq,beq_eq_false_iff_ne,bne_iff_ne,bne_eq_false_iff_eq,Bool.not_eq_true',Bool.not_eq_false',Int.not_lt,Int.not_le,ne_eq,Bool.and_eq_true,Bool.or_eq_true,Bool.or_eq_false_iff,Bool.and_eq_false_iff] at hp) <;> (first | omega | (simp only [go_sem,hg,a58,a58r0,a58r1,a58r2,a58r3,a58r4,a58r5,a58r6,a58r7,a58r8]; clear hg))) | (refine grdD_intro ?_ ?_ <;> intro hg <;> (have hp := hg; try simp only [decide_eq_true_eq,decide_eq_false_iff_not,beq_iff_eq,beq_eq_false_iff_ne,bne_iff_ne,bne_eq_false_iff_eq,Bool.not_eq_true',Bool.not_eq_false',Int.not_lt,Int.not_le,ne_eq,Bool.and_eq_true,Bool.or_eq_true,Bool.or_eq_false_iff,Bool.and_eq_false_iff] at hp) <;> (first | omega | (simp only [go_sem,hg,a58,a58r0,a58r1,a58r2,a58r3,a58r4,a58r5,a58r6,a58r7,a58r8]; clear hg))) | (refine condC_intro ?_ ?_ <;> intro hg <;> (have hp := hg; try simp only [decide_eq_true_eq,decide_eq_false_iff_not,beq_iff_eq,beq_eq_false_iff_ne,bne_iff_ne,bne_eq_false_iff_eq,Bool.not_eq_true',Bool.not_eq_false',Int.not_lt,Int.not_le,ne_eq,Bool.and_eq_true,Bool.or_eq_true,Bool.or_eq_false_iff,Bool.and_eq_false_iff] at hp) <;> (first | omega | (simp only [go_sem,hg,a58,a58r0,a58r1,a58r2,a58r3,a58r4,a58r5,a58r6,a58r7,a58r8]; clear hg))) | (refine condW_intro ?_ ?_ <;> intro hg <;> (have hp := hg; try simp only [decide_eq_true_eq,decide_eq_false_iff_not,beq_iff_eq,beq_eq_false_iff_ne,bne_iff_ne,bne_eq_false_iff_eq,Bool.not_eq_true',Bool.not_eq_false',Int.not_lt,Int.not_le,ne_eq,Bool.and_eq_true,Bool.or_eq_true,Bool.or_eq_false_iff,Bool.and_eq_false_iff] at hp) <;> (first | omega | (simp only [go_sem,hg,a58,a58r0,a58r1,a58r2,a58r3,a58r4,a58r5,a58r6,a58r7,a58r8]; clear hg))))
    all_goals first
      | (exfalso; simp only [decide_eq_true_eq, decide_eq_false_iff_not, beq_iff_eq, beq_eq_false_iff_ne, bne_iff_ne, bne_eq_false_iff_eq, Bool.not_eq_true', Bool.not_eq_false', Int.not_lt, Int.not_le, ne_eq, Bool.and_eq_true, Bool.or_eq_true, Bool.or_eq_false_iff, Bool.and_eq_false_iff] at *; omega)
      | (refine Cl.fin rfl ⟨congrArg AVal.bool ?_, rfl⟩; rw [Bool.eq_iff_iff, ruleP_iff]; simp only [decide_eq_true_eq, decide_eq_false_iff_not, beq_iff_eq, beq_eq_false_iff_ne, bne_iff_ne, bne_eq_false_iff_eq, Bool.not_eq_true', Bool.not_eq_false', Int.not_lt, Int.not_le, ne_eq, Bool.and_eq_true, Bool.or_eq_true, Bool.or_eq_false_iff, Bool.and_eq_false_iff, Bool.false_eq_true, false_iff, true_iff, iff_true, iff_false, and_true, true_and] at *; omega)

theorem rValid_ok (l : List Hol) (hl : l.length ≤ 9223372036854775806) : AFn Tryz.prog 39 [.pure 6 (els l)] [] (fun v rs => v = .int .i64 (validP l) ∧ rs = []) := by
  refine afn Tryz.func39 a39_ok (by simp [a39]) ?_
  simp only [go_sem,a39,a39r0,a39r1,a39r2,a39r3,a39r4,a39r5,a39r6,a39r7,a39r8]
  refine condC_intro ?_ ?_ <;> intro hg1 <;> simp only [decide_eq_true_eq,decide_eq_false_iff_not,beq_iff_eq,beq_eq_false_iff_ne,bne_iff_ne,bne_eq_false_iff_eq,Bool.not_eq_true',Bool.not_eq_false',Int.not_lt,Int.not_le,ne_eq,Bool.and_eq_true,Bool.or_eq_true,Bool.or_eq_false_iff,Bool.and_eq_false_iff] at hg1 <;> simp only [go_sem,a39,a39r0,a39r1,a39r2,a39r3,a39r4,a39r5,a39r6,a39r7,a39r8]
  · exact Cl.fin rfl ⟨by rw [validP, if_pos (by omega)], rfl⟩
  have hpc : validP l = if validL l = true then 0 else 1 := by rw [validP, if_neg (by omega)]
  refine avc_loop (fun env rows => ∃ (i : Nat), i ≤ l.length ∧ validL l = validL (l.drop i) ∧ env = [(0, .pure 6 (els l)), (3, .int .i64 i)] ∧ rows = [])
    (fun env _ => match slot env 3 with | .int _ j => (l.length - j).toNat | _ => 0) ?_ ?_
  · exact Cl.here ⟨0, by omega, by simp, rfl, rfl⟩
  · rintro env rows ⟨i, hi, hb, rfl, rfl⟩
    simp only [go_sem,a39,a39r0,a39r1,a39r2,a39r3,a39r4,a39r5,a39r6,a39r7,a39r8]
    refine condC_intro ?_ ?_ <;> intro hg2 <;> simp only [decide_eq_true_eq,decide_eq_false_iff_not,beq_iff_eq,beq_eq_false_iff_ne,bne_iff_ne,bne_eq_false_iff_eq,Bool.not_eq_true',Bool.not_eq_false',Int.not_lt,Int.not_le,ne_eq,Bool.and_eq_true,Bool.or_eq_true,Bool.or_eq_false_iff,Bool.and_eq_false_iff] at hg2 <;> simp only [go_sem,a39,a39r0,a39r1,a39r2,a39r3,a39r4,a39r5,a39r6,a39r7,a39r8]
    · have hlt : i < l.length := by omega
      refine ⟨by omega, by omega, ?_⟩
      try simp only [Int.toNat_natCast]
      rw [els_getD hlt]
      rw [List.drop_eq_getElem_cons hlt, validL, validL, List.all_cons] at hb
      generalize l[i] = p at hb ⊢
      have hw : IntKind.i64.wrap ((i : Int) + 1) = ((i + 1 : Nat) : Int) := by rw [wrap_i64 (by omega) (by omega)]; omega
      simp only [go_sem,a39,a39r0,a39r1,a39r2,a39r3,a39r4,a39r5,a39r6,a39r7,a39r8,cel_hol_take,cel_hol_len]
      refine callC_det (rrule_ok p) rfl rfl ?_
      simp only [go_sem]
      refine condC_intro ?_ ?_ <;> intro hg4 <;> simp only [decide_eq_true_eq,decide_eq_false_iff_not,beq_iff_eq,beq_eq_false_iff_ne,bne_iff_ne,bne_eq_false_iff_eq,Bool.not_eq_true',Bool.not_eq_false',Int.not_lt,Int.not_le,ne_eq,Bool.and_eq_true,Bool.or_eq_true,Bool.or_eq_false_iff,Bool.and_eq_false_iff] at hg4 <;> simp only [go_sem,a39,a39r0,a39r1,a39r2,a39r3,a39r4,a39r5,a39r6,a39r7,a39r8,hw]
      · exact Cl.fin rfl ⟨by rw [hpc, if_neg (by rw [validL, hb, hg4]; simp)], rfl⟩
      · refine Cl.here ⟨⟨i + 1, by omega, ?_, rfl, rfl⟩, ?_⟩
        · rw [validL, hb, hg4, Bool.true_and, validL]
        · simp only [go_sem]
          omega
    · have hkk : i = l.length := by omega
      rw [hkk, List.drop_length] at hb
      exact Cl.fin rfl ⟨by rw [hpc, hb]; rfl, rfl⟩

end Go.Proofs.YtlanehcihoiglaaGreatDoor
