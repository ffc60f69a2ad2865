/- The reference of chapter 9: Valid, Minutes. -/
import Derived.Test.YtjacobmkfkmdiaaA2Sane
set_option linter.unusedSimpArgs false
set_option linter.unusedVariables false
set_option linter.unusedSectionVars false
namespace Go.Proofs.Ytjacobmkfkmdiaa
open Go Go.Abs
set_option linter.unusedSimpArgs false

theorem isInt_ok (f t : Int) : AFn Try.prog 56 [.agg [.int .i64 f, .int .i64 t]] [] (fun v rs => v = .bool (ivIn ⟨f, t⟩ 0 120968640) ∧ rs = []) := by
  refine afn Try.func56 a56_ok (by simp [a56]) ?_
  simp only [go_sem, Nat.reduceAdd, Nat.reduceSub, Nat.reduceMul, Nat.reduceEqDiff, Nat.reduceLT, Nat.reduceLeDiff, Nat.reduceBEq, reduceIte, reduceCtorEq, Int.reduceToNat, Int.reduceLE, Int.reduceLT, Int.reduceBEq, Int.reduceBNe, a56, a56r0, a56r1]
  repeat' (first | (refine grdC_intro ?_ ?_ <;> intro hg <;> (have hp := hg; try simp only [decide_eq_true_eq, decide_eq_false_iff_not, beq_iff_eq, beq_eq_false_iff_ne, bne_iff_ne, bne_eq_false_iff_eq, Bool.not_eq_true', Bool.not_eq_false', Int.not_lt, Int.not_le, ne_eq, Bool.and_eq_true, Bool.or_eq_true, Bool.or_eq_false_iff, Bool.and_eq_false_iff] at hp) <;> (first | omega | (simp only [go_sem, Nat.reduceAdd, Nat.reduceSub, Nat.reduceMul, Nat.reduceEqDiff, Nat.reduceLT, Nat.reduceLeDiff, Nat.reduceBEq, reduceIte, reduceCtorEq, Int.reduceToNat, Int.reduceLE, Int.reduceLT, Int.reduceBEq, Int.reduceBNe, hg, a56, a56r0, a56r1]; clear hg))) | (refine grdD_intro ?_ ?_ <;> intro hg <;> (have hp := hg; try simp only [decide_eq_true_eq, decide_eq_false_iff_not, beq_iff_eq, beq_eq_false_iff_ne, bne_iff_ne, bne_eq_false_iff_eq, Bool.not_eq_true', Bool.not_eq_false', Int.not_lt, Int.not_le, ne_eq, Bool.and_eq_true, Bool.or_eq_true, Bool.or_eq_false_iff, Bool.and_eq_false_iff] at hp) <;> (first | omega | (simp only [go_sem, Nat.reduceAdd, Nat.reduceSub, Nat.reduceMul, Nat.reduceEqDiff, Nat.reduceLT, Nat.reduceLeDiff, Nat.reduceBEq, reduceIte, reduceCtorEq, Int.reduceToNat, Int.reduceLE, Int.reduceLT, Int.reduceBEq, Int.reduceBNe, hg, a56, a56r0, a56r1]; clear hg))) | (refine condC_intro ?_ ?_ <;> intro hg <;> (have hp := hg; try simp only [decide_eq_true_eq, decide_eq_false_iff_not, beq_iff_eq, beq_eq_false_iff_ne, bne_iff_ne, bne_eq_false_iff_eq, Bool.not_eq_true', Bool.not_eq_false', Int.not_lt, Int.not_le, ne_eq, Bool.and_eq_true, Bool.or_eq_true, Bool.or_eq_false_iff, Bool.and_eq_false_iff] at hp) <;> (first | omega | (simp only [go_sem, Nat.reduceAdd, Nat.reduceSub, Nat.reduceMul, Nat.reduceEqDiff, Nat.reduceLT, Nat.reduceLeDiff, Nat.reduceBEq, reduceIte, reduceCtorEq, Int.reduceToNat, Int.reduceLE, Int.reduceLT, Int.reduceBEq, Int.reduceBNe, hg, a56, a56r0, a56r1]; clear hg))) | (refine condW_intro ?_ ?_ <;> intro hg <;> (have hp := hg; try simp only [decide_eq_true_eq, decide_eq_false_iff_not, beq_iff_eq, beq_eq_false_iff_ne, bne_iff_ne, bne_eq_false_iff_eq, Bool.not_eq_true', Bool.not_eq_false', Int.not_lt, Int.not_le, ne_eq, Bool.and_eq_true, Bool.or_eq_true, Bool.or_eq_false_iff, Bool.and_eq_false_iff] at hp) <;> (first | omega | (simp only [go_sem, Nat.reduceAdd, Nat.reduceSub, Nat.reduceMul, Nat.reduceEqDiff, Nat.reduceLT, Nat.reduceLeDiff, Nat.reduceBEq, reduceIte, reduceCtorEq, Int.reduceToNat, Int.reduceLE, Int.reduceLT, Int.reduceBEq, Int.reduceBNe, hg, a56, a56r0, a56r1]; clear hg))))
  all_goals (refine Cl.fin rfl ⟨congrArg AVal.bool ?_, rfl⟩; rw [ivIn, Bool.eq_iff_iff]; simp only [decide_eq_true_eq, decide_eq_false_iff_not, beq_iff_eq, beq_eq_false_iff_ne, bne_iff_ne, bne_eq_false_iff_eq, Bool.not_eq_true', Bool.not_eq_false', Int.not_lt, Int.not_le, ne_eq, Bool.and_eq_true, Bool.or_eq_true, Bool.or_eq_false_iff, Bool.and_eq_false_iff, Bool.false_eq_true, false_iff]; omega)

theorem one_ok (p : Pre) : AFn Try.prog 53 [.agg (Cel.c p)] [] (fun v rs => v = .bool (preOk 0 p) ∧ rs = []) := by
  refine afn Try.func53 a53_ok (by simp [a53]) ?_
  simp only [go_sem, Nat.reduceAdd, Nat.reduceSub, Nat.reduceMul, Nat.reduceEqDiff, Nat.reduceLT, Nat.reduceLeDiff, Nat.reduceBEq, reduceIte, reduceCtorEq, Int.reduceToNat, Int.reduceLE, Int.reduceLT, Int.reduceBEq, Int.reduceBNe, a53, a53r0, a53r1, a53r2, a53r3, a53r4, a53r5, a53r6, a53r7, a53r8, a53r9, a53r10, a53r11, cel_pre]
  refine callC_det (isInt_ok p.fr p.to) rfl rfl ?_
  simp only [go_sem, Nat.reduceAdd, Nat.reduceSub, Nat.reduceMul, Nat.reduceEqDiff, Nat.reduceLT, Nat.reduceLeDiff, Nat.reduceBEq, reduceIte, reduceCtorEq, Int.reduceToNat, Int.reduceLE, Int.reduceLT, Int.reduceBEq, Int.reduceBNe]
  repeat' (first | (refine grdC_intro ?_ ?_ <;> intro hg <;> (have hp := hg; try simp only [decide_eq_true_eq, decide_eq_false_iff_not, beq_iff_eq, beq_eq_false_iff_ne, bne_iff_ne, bne_eq_false_iff_eq, Bool.not_eq_true', Bool.not_eq_false', Int.not_lt, Int.not_le, ne_eq, Bool.and_eq_true, Bool.or_eq_true, Bool.or_eq_false_iff, Bool.and_eq_false_iff] at hp) <;> (first | omega | (simp only [go_sem, Nat.reduceAdd, Nat.reduceSub, Nat.reduceMul, Nat.reduceEqDiff, Nat.reduceLT, Nat.reduceLeDiff, Nat.reduceBEq, reduceIte, reduceCtorEq, Int.reduceToNat, Int.reduceLE, Int.reduceLT, Int.reduceBEq, Int.reduceBNe, hg, a53, a53r0, a53r1, a53r2, a53r3, a53r4, a53r5, a53r6, a53r7, a53r8, a53r9, a53r10, a53r11]; clear hg))) | (refine grdD_intro ?_ ?_ <;> intro hg <;> (have hp := hg; try simp only [decide_eq_true_eq, decide_eq_false_iff_not, beq_iff_eq, beq_eq_false_iff_ne, bne_iff_ne, bne_eq_false_iff_eq, Bool.not_eq_true', Bool.not_eq_false', Int.not_lt, Int.not_le, ne_eq, Bool.and_eq_true, Bool.or_eq_true, Bool.or_eq_false_iff, Bool.and_eq_false_iff] at hp) <;> (first | omega | (simp only [go_sem, Nat.reduceAdd, Nat.reduceSub, Nat.reduceMul, Nat.reduceEqDiff, Nat.reduceLT, Nat.reduceLeDiff, Nat.reduceBEq, reduceIte, reduceCtorEq, Int.reduceToNat, Int.reduceLE, Int.reduceLT, Int.reduceBEq, Int.reduceBNe, hg, a53, a53r0, a53r1, a53r2, a53r3, a53r4, a53r5, a53r6, a53r7, a53r8, a53r9, a53r10, a53r11]; clear hg))) | (refine condC_intro ?_ ?_ <;> intro hg <;> (have hp := hg; try simp only [decide_eq_true_eq, decide_eq_false_iff_not, beq_iff_eq, beq_eq_false_iff_ne, bne_iff_ne, bne_eq_false_iff_eq, Bool.not_eq_true', Bool.not_eq_false', Int.not_lt, Int.not_le, ne_eq, Bool.and_eq_true, Bool.or_eq_true, Bool.or_eq_false_iff, Bool.and_eq_false_iff] at hp) <;> (first | omega | (simp only [go_sem, Nat.reduceAdd, Nat.reduceSub, Nat.reduceMul, Nat.reduceEqDiff, Nat.reduceLT, Nat.reduceLeDiff, Nat.reduceBEq, reduceIte, reduceCtorEq, Int.reduceToNat, Int.reduceLE, Int.reduceLT, Int.reduceBEq, Int.reduceBNe, hg, a53, a53r0, a53r1, a53r2, a53r3, a53r4, a53r5, a53r6, a53r7, a53r8, a53r9, a53r10, a53r11]; clear hg))) | (refine condW_intro ?_ ?_ <;> intro hg <;> (have hp := hg; try simp only [decide_eq_true_eq, decide_eq_false_iff_not, beq_iff_eq, beq_eq_false_iff_ne, bne_iff_ne, bne_eq_false_iff_eq, Bool.not_eq_true', Bool.not_eq_false', Int.not_lt, Int.not_le, ne_eq, Bool.and_eq_true, Bool.or_eq_true, Bool.or_eq_false_iff, Bool.and_eq_false_iff] at hp) <;> (first | omega | (simp only [go_sem, Nat.reduceAdd, Nat.reduceSub, Nat.reduceMul, Nat.reduceEqDiff, Nat.reduceLT, Nat.reduceLeDiff, Nat.reduceBEq, reduceIte, reduceCtorEq, Int.reduceToNat, Int.reduceLE, Int.reduceLT, Int.reduceBEq, Int.reduceBNe, hg, a53, a53r0, a53r1, a53r2, a53r3, a53r4, a53r5, a53r6, a53r7, a53r8, a53r9, a53r10, a53r11]; clear hg))))
  · exact Cl.fin rfl ⟨by rw [preOk, hp]; simp, rfl⟩
  · exact Cl.fin rfl ⟨by rw [preOk, decide_eq_false (p := p.br.length ≤ 1024) (by omega)]; simp, rfl⟩
  rename_i hin
  have hpe : preOk 0 p = brOk p.fr p.to p.br := by rw [preOk, hin, decide_eq_true (p := p.br.length ≤ 1024) (by omega)]; simp
  have hin' := hin
  simp only [ivIn, decide_eq_true_eq] at hin'
  refine avc_loop (fun env rows => ∃ (k : Nat) (e : Int), k ≤ p.br.length ∧ 0 ≤ e ∧ brOk p.fr p.to p.br = brOk e p.to (p.br.drop k) ∧ env = [(1, .ref 0 1 0 0), (3, .int .i64 e), (4, .int .i64 k)] ∧ rows = [.live 29 3 [[.int .i64 p.fr, .int .i64 p.to, .pure 2 (els p.br)]]])
    (fun env _ => match slot env 4 with | .int _ j => (p.br.length - j).toNat | _ => 0) ?_ ?_
  · exact Cl.here ⟨0, p.fr, by omega, by omega, by simp, rfl, rfl⟩
  · rintro env rows ⟨k, e, hk, he, hbr, rfl, rfl⟩
    simp only [go_sem, Nat.reduceAdd, Nat.reduceSub, Nat.reduceMul, Nat.reduceEqDiff, Nat.reduceLT, Nat.reduceLeDiff, Nat.reduceBEq, reduceIte, reduceCtorEq, Int.reduceToNat, Int.reduceLE, Int.reduceLT, Int.reduceBEq, Int.reduceBNe, a53, a53r0, a53r1, a53r2, a53r3, a53r4, a53r5, a53r6, a53r7, a53r8, a53r9, a53r10, a53r11]
    refine condC_intro ?_ ?_ <;> intro hg3 <;> simp only [decide_eq_true_eq, decide_eq_false_iff_not, beq_iff_eq, beq_eq_false_iff_ne, bne_iff_ne, bne_eq_false_iff_eq, Bool.not_eq_true', Bool.not_eq_false', Int.not_lt, Int.not_le, ne_eq, Bool.and_eq_true, Bool.or_eq_true, Bool.or_eq_false_iff, Bool.and_eq_false_iff] at hg3 <;> simp only [go_sem, Nat.reduceAdd, Nat.reduceSub, Nat.reduceMul, Nat.reduceEqDiff, Nat.reduceLT, Nat.reduceLeDiff, Nat.reduceBEq, reduceIte, reduceCtorEq, Int.reduceToNat, Int.reduceLE, Int.reduceLT, Int.reduceBEq, Int.reduceBNe, a53, a53r0, a53r1, a53r2, a53r3, a53r4, a53r5, a53r6, a53r7, a53r8, a53r9, a53r10, a53r11]
    · have hlt2 : k < p.br.length := by omega
      refine ⟨by omega, by omega, ?_⟩
      try simp only [Int.toNat_natCast]
      rw [els_getD hlt2, cel_iv]
      rw [drop_cons hlt2, brOk] at hbr
      generalize p.br[k] = b at hbr ⊢
      simp only [go_sem, Nat.reduceAdd, Nat.reduceSub, Nat.reduceMul, Nat.reduceEqDiff, Nat.reduceLT, Nat.reduceLeDiff, Nat.reduceBEq, reduceIte, reduceCtorEq, Int.reduceToNat, Int.reduceLE, Int.reduceLT, Int.reduceBEq, Int.reduceBNe, a53, a53r0, a53r1, a53r2, a53r3, a53r4, a53r5, a53r6, a53r7, a53r8, a53r9, a53r10, a53r11]
      refine callC_det (isInt_ok b.fr b.to) rfl rfl ?_
      simp only [go_sem, Nat.reduceAdd, Nat.reduceSub, Nat.reduceMul, Nat.reduceEqDiff, Nat.reduceLT, Nat.reduceLeDiff, Nat.reduceBEq, reduceIte, reduceCtorEq, Int.reduceToNat, Int.reduceLE, Int.reduceLT, Int.reduceBEq, Int.reduceBNe]
      have hw : IntKind.i64.wrap ((k : Int) + 1) = ((k + 1 : Nat) : Int) := by rw [wrap_i64 (by omega) (by omega)]; omega
      repeat' (first | (refine grdC_intro ?_ ?_ <;> intro hg <;> (have hp := hg; try simp only [decide_eq_true_eq, decide_eq_false_iff_not, beq_iff_eq, beq_eq_false_iff_ne, bne_iff_ne, bne_eq_false_iff_eq, Bool.not_eq_true', Bool.not_eq_false', Int.not_lt, Int.not_le, ne_eq, Bool.and_eq_true, Bool.or_eq_true, Bool.or_eq_false_iff, Bool.and_eq_false_iff] at hp) <;> (first | omega | (simp only [go_sem, Nat.reduceAdd, Nat.reduceSub, Nat.reduceMul, Nat.reduceEqDiff, Nat.reduceLT, Nat.reduceLeDiff, Nat.reduceBEq, reduceIte, reduceCtorEq, Int.reduceToNat, Int.reduceLE, Int.reduceLT, Int.reduceBEq, Int.reduceBNe, hg, a53, a53r0, a53r1, a53r2, a53r3, a53r4, a53r5, a53r6, a53r7, a53r8, a53r9, a53r10, a53r11, hw]; clear hg))) | (refine grdD_intro ?_ ?_ <;> intro hg <;> (have hp := hg; try simp only [decide_eq_true_eq, decide_eq_false_iff_not, beq_iff_eq, beq_eq_false_iff_ne, bne_iff_ne, bne_eq_false_iff_eq, Bool.not_eq_true', Bool.not_eq_false', Int.not_lt, Int.not_le, ne_eq, Bool.and_eq_true, Bool.or_eq_true, Bool.or_eq_false_iff, Bool.and_eq_false_iff] at hp) <;> (first | omega | (simp only [go_sem, Nat.reduceAdd, Nat.reduceSub, Nat.reduceMul, Nat.reduceEqDiff, Nat.reduceLT, Nat.reduceLeDiff, Nat.reduceBEq, reduceIte, reduceCtorEq, Int.reduceToNat, Int.reduceLE, Int.reduceLT, Int.reduceBEq, Int.reduceBNe, hg, a53, a53r0, a53r1, a53r2, a53r3, a53r4, a53r5, a53r6, a53r7, a53r8, a53r9, a53r10, a53r11, hw]; clear hg))) | (refine condC_intro ?_ ?_ <;> intro hg <;> (have hp := hg; try simp only [decide_eq_true_eq, decide_eq_false_iff_not, beq_iff_eq, beq_eq_false_iff_ne, bne_iff_ne, bne_eq_false_iff_eq, Bool.not_eq_true', Bool.not_eq_false', Int.not_lt, Int.not_le, ne_eq, Bool.and_eq_true, Bool.or_eq_true, Bool.or_eq_false_iff, Bool.and_eq_false_iff] at hp) <;> (first | omega | (simp only [go_sem, Nat.reduceAdd, Nat.reduceSub, Nat.reduceMul, Nat.reduceEqDiff, Nat.reduceLT, Nat.reduceLeDiff, Nat.reduceBEq, reduceIte, reduceCtorEq, Int.reduceToNat, Int.reduceLE, Int.reduceLT, Int.reduceBEq, Int.reduceBNe, hg, a53, a53r0, a53r1, a53r2, a53r3, a53r4, a53r5, a53r6, a53r7, a53r8, a53r9, a53r10, a53r11, hw]; clear hg))) | (refine condW_intro ?_ ?_ <;> intro hg <;> (have hp := hg; try simp only [decide_eq_true_eq, decide_eq_false_iff_not, beq_iff_eq, beq_eq_false_iff_ne, bne_iff_ne, bne_eq_false_iff_eq, Bool.not_eq_true', Bool.not_eq_false', Int.not_lt, Int.not_le, ne_eq, Bool.and_eq_true, Bool.or_eq_true, Bool.or_eq_false_iff, Bool.and_eq_false_iff] at hp) <;> (first | omega | (simp only [go_sem, Nat.reduceAdd, Nat.reduceSub, Nat.reduceMul, Nat.reduceEqDiff, Nat.reduceLT, Nat.reduceLeDiff, Nat.reduceBEq, reduceIte, reduceCtorEq, Int.reduceToNat, Int.reduceLE, Int.reduceLT, Int.reduceBEq, Int.reduceBNe, hg, a53, a53r0, a53r1, a53r2, a53r3, a53r4, a53r5, a53r6, a53r7, a53r8, a53r9, a53r10, a53r11, hw]; clear hg))))
      any_goals
        refine Cl.fin rfl ⟨?_, rfl⟩
        rw [hpe, hbr, show ivIn b e p.to = false from by simp only [ivIn, decide_eq_false_iff_not, decide_eq_true_eq] at *; omega]; rfl
      (refine Cl.tr [some 0] [] rfl rfl (by simp only [go_sem, Nat.reduceAdd, Nat.reduceSub, Nat.reduceMul, Nat.reduceEqDiff, Nat.reduceLT, Nat.reduceLeDiff, Nat.reduceBEq, reduceIte, reduceCtorEq, Int.reduceToNat, Int.reduceLE, Int.reduceLT, Int.reduceBEq, Int.reduceBNe] <;> rfl) ?_; simp only [go_sem, Nat.reduceAdd, Nat.reduceSub, Nat.reduceMul, Nat.reduceEqDiff, Nat.reduceLT, Nat.reduceLeDiff, Nat.reduceBEq, reduceIte, reduceCtorEq, Int.reduceToNat, Int.reduceLE, Int.reduceLT, Int.reduceBEq, Int.reduceBNe])
      have hbb : ivIn b e p.to = true := by simp only [ivIn, decide_eq_false_iff_not, decide_eq_true_eq] at *; omega
      refine Cl.here ⟨⟨k + 1, b.to, by omega, by simp only [ivIn, decide_eq_true_eq] at hbb; omega, by rw [hbr, hbb, Bool.true_and], rfl, rfl⟩, ?_⟩
      simp only [go_sem, Nat.reduceAdd, Nat.reduceSub, Nat.reduceMul, Nat.reduceEqDiff, Nat.reduceLT, Nat.reduceLeDiff, Nat.reduceBEq, reduceIte, reduceCtorEq, Int.reduceToNat, Int.reduceLE, Int.reduceLT, Int.reduceBEq, Int.reduceBNe]
      omega
    · have hkk : k = p.br.length := by omega
      rw [hkk, List.drop_length, brOk] at hbr
      exact Cl.fin rfl ⟨by rw [hpe, hbr], rfl⟩

theorem preOk_split {e : Int} {p : Pre} (he : 0 ≤ e) : preOk e p = (preOk 0 p && decide (e ≤ p.fr)) := by
  rw [Bool.eq_iff_iff]
  simp only [preOk, ivIn, Bool.and_eq_true, decide_eq_true_eq]
  constructor
  · rintro ⟨⟨h1, h2⟩, h3⟩; exact ⟨⟨⟨by omega, h2⟩, h3⟩, by omega⟩
  · rintro ⟨⟨⟨h1, h2⟩, h3⟩, h4⟩; exact ⟨⟨by omega, h2⟩, h3⟩

theorem refValid_ok (l : List Pre) (hl : l.length ≤ 9223372036854775806) : AFn Try.prog 23 [.pure 3 (els l)] [] (fun v rs => v = .int .i64 (pvalid l) ∧ rs = []) := by
  refine afn Try.func23 a23_ok (by simp [a23]) ?_
  simp only [go_sem, Nat.reduceAdd, Nat.reduceSub, Nat.reduceMul, Nat.reduceEqDiff, Nat.reduceLT, Nat.reduceLeDiff, Nat.reduceBEq, reduceIte, reduceCtorEq, Int.reduceToNat, Int.reduceLE, Int.reduceLT, Int.reduceBEq, Int.reduceBNe, a23, a23r0, a23r1, a23r2, a23r3, a23r4, a23r5, a23r6, a23r7, a23r8]
  refine condC_intro ?_ ?_ <;> intro hg1 <;> simp only [decide_eq_true_eq, decide_eq_false_iff_not, beq_iff_eq, beq_eq_false_iff_ne, bne_iff_ne, bne_eq_false_iff_eq, Bool.not_eq_true', Bool.not_eq_false', Int.not_lt, Int.not_le, ne_eq, Bool.and_eq_true, Bool.or_eq_true, Bool.or_eq_false_iff, Bool.and_eq_false_iff] at hg1 <;> simp only [go_sem, Nat.reduceAdd, Nat.reduceSub, Nat.reduceMul, Nat.reduceEqDiff, Nat.reduceLT, Nat.reduceLeDiff, Nat.reduceBEq, reduceIte, reduceCtorEq, Int.reduceToNat, Int.reduceLE, Int.reduceLT, Int.reduceBEq, Int.reduceBNe, a23, a23r0, a23r1, a23r2, a23r3, a23r4, a23r5, a23r6, a23r7, a23r8]
  · exact Cl.fin rfl ⟨by rw [pvalid, if_pos (by omega)], rfl⟩
  have hpc : pvalid l = if presOk 0 l then 0 else 1 := by rw [pvalid, if_neg (by omega)]
  refine avc_loop (fun env rows => ∃ (i : Nat) (e : Int), i ≤ l.length ∧ 0 ≤ e ∧ (i = 0 → e = 0) ∧ (∀ j (h : j < l.length), i = j + 1 → e = l[j].to) ∧ presOk 0 l = presOk e (l.drop i) ∧ env = [(0, .pure 3 (els l)), (3, .int .i64 i)] ∧ rows = [])
    (fun env _ => match slot env 3 with | .int _ j => (l.length - j).toNat | _ => 0) ?_ ?_
  · exact Cl.here ⟨0, 0, by omega, by omega, fun _ => rfl, fun j _ h => by omega, by simp, rfl, rfl⟩
  · rintro env rows ⟨i, e, hi, he, he0, he1, hb, rfl, rfl⟩
    simp only [go_sem, Nat.reduceAdd, Nat.reduceSub, Nat.reduceMul, Nat.reduceEqDiff, Nat.reduceLT, Nat.reduceLeDiff, Nat.reduceBEq, reduceIte, reduceCtorEq, Int.reduceToNat, Int.reduceLE, Int.reduceLT, Int.reduceBEq, Int.reduceBNe, a23, a23r0, a23r1, a23r2, a23r3, a23r4, a23r5, a23r6, a23r7, a23r8]
    refine condC_intro ?_ ?_ <;> intro hg2 <;> simp only [decide_eq_true_eq, decide_eq_false_iff_not, beq_iff_eq, beq_eq_false_iff_ne, bne_iff_ne, bne_eq_false_iff_eq, Bool.not_eq_true', Bool.not_eq_false', Int.not_lt, Int.not_le, ne_eq, Bool.and_eq_true, Bool.or_eq_true, Bool.or_eq_false_iff, Bool.and_eq_false_iff] at hg2 <;> simp only [go_sem, Nat.reduceAdd, Nat.reduceSub, Nat.reduceMul, Nat.reduceEqDiff, Nat.reduceLT, Nat.reduceLeDiff, Nat.reduceBEq, reduceIte, reduceCtorEq, Int.reduceToNat, Int.reduceLE, Int.reduceLT, Int.reduceBEq, Int.reduceBNe, a23, a23r0, a23r1, a23r2, a23r3, a23r4, a23r5, a23r6, a23r7, a23r8]
    · have hlt : i < l.length := by omega
      have hi0 : (0 : Int) ≤ i := by omega
      have hi1 : (i : Int) < l.length := by omega
      have hget : (els l).getD i [] = [.int .i64 l[i].fr, .int .i64 l[i].to, .pure 2 (els l[i].br)] := by rw [els_getD hlt, cel_pre]
      have hw1 : IntKind.i64.wrap ((i : Int) + 1) = ((i + 1 : Nat) : Int) := by rw [wrap_i64 (by omega) (by omega)]; omega
      have hone := one_ok l[i]
      rw [drop_cons hlt, presOk, preOk_split he] at hb
      have hnext : ∀ j (h : j < l.length), i + 1 = j + 1 → l[i].to = l[j].to := by intro j h hj; obtain rfl : i = j := (by omega); rfl
      have hpos : preOk 0 l[i] = true → 0 ≤ l[i].to := by intro h; simp only [preOk, ivIn, Bool.and_eq_true, decide_eq_true_eq] at h; omega
      generalize l[i] = p at hget hb hone hnext hpos
      rcases Nat.eq_zero_or_pos i with h | h
      · have := he0 h
        subst h
        subst this
        have hi1' : (0 : Int) < l.length := by omega
        simp only [go_sem, Nat.reduceAdd, Nat.reduceSub, Nat.reduceMul, Nat.reduceEqDiff, Nat.reduceLT, Nat.reduceLeDiff, Nat.reduceBEq, reduceIte, reduceCtorEq, Int.reduceToNat, Int.reduceLE, Int.reduceLT, Int.reduceBEq, Int.reduceBNe, a23, a23r0, a23r1, a23r2, a23r3, a23r4, a23r5, a23r6, a23r7, a23r8, Int.natCast_zero, hi1', hget]
        refine callD_det hone rfl rfl ?_
        simp only [go_sem, Nat.reduceAdd, Nat.reduceSub, Nat.reduceMul, Nat.reduceEqDiff, Nat.reduceLT, Nat.reduceLeDiff, Nat.reduceBEq, reduceIte, reduceCtorEq, Int.reduceToNat, Int.reduceLE, Int.reduceLT, Int.reduceBEq, Int.reduceBNe]
        have hw0 : IntKind.i64.wrap ((0 : Int) + 1) = ((1 : Nat) : Int) := rfl
        have hfr : preOk 0 p = true → 0 ≤ p.fr := by intro h; simp only [preOk, ivIn, Bool.and_eq_true, decide_eq_true_eq] at h; omega
        repeat' (first | (refine grdC_intro ?_ ?_ <;> intro hg <;> (have hp := hg; try simp only [decide_eq_true_eq, decide_eq_false_iff_not, beq_iff_eq, beq_eq_false_iff_ne, bne_iff_ne, bne_eq_false_iff_eq, Bool.not_eq_true', Bool.not_eq_false', Int.not_lt, Int.not_le, ne_eq, Bool.and_eq_true, Bool.or_eq_true, Bool.or_eq_false_iff, Bool.and_eq_false_iff] at hp) <;> (first | omega | (simp only [go_sem, Nat.reduceAdd, Nat.reduceSub, Nat.reduceMul, Nat.reduceEqDiff, Nat.reduceLT, Nat.reduceLeDiff, Nat.reduceBEq, reduceIte, reduceCtorEq, Int.reduceToNat, Int.reduceLE, Int.reduceLT, Int.reduceBEq, Int.reduceBNe, hg, a23, a23r0, a23r1, a23r2, a23r3, a23r4, a23r5, a23r6, a23r7, a23r8, hw0]; clear hg))) | (refine grdD_intro ?_ ?_ <;> intro hg <;> (have hp := hg; try simp only [decide_eq_true_eq, decide_eq_false_iff_not, beq_iff_eq, beq_eq_false_iff_ne, bne_iff_ne, bne_eq_false_iff_eq, Bool.not_eq_true', Bool.not_eq_false', Int.not_lt, Int.not_le, ne_eq, Bool.and_eq_true, Bool.or_eq_true, Bool.or_eq_false_iff, Bool.and_eq_false_iff] at hp) <;> (first | omega | (simp only [go_sem, Nat.reduceAdd, Nat.reduceSub, Nat.reduceMul, Nat.reduceEqDiff, Nat.reduceLT, Nat.reduceLeDiff, Nat.reduceBEq, reduceIte, reduceCtorEq, Int.reduceToNat, Int.reduceLE, Int.reduceLT, Int.reduceBEq, Int.reduceBNe, hg, a23, a23r0, a23r1, a23r2, a23r3, a23r4, a23r5, a23r6, a23r7, a23r8, hw0]; clear hg))) | (refine condC_intro ?_ ?_ <;> intro hg <;> (have hp := hg; try simp only [decide_eq_true_eq, decide_eq_false_iff_not, beq_iff_eq, beq_eq_false_iff_ne, bne_iff_ne, bne_eq_false_iff_eq, Bool.not_eq_true', Bool.not_eq_false', Int.not_lt, Int.not_le, ne_eq, Bool.and_eq_true, Bool.or_eq_true, Bool.or_eq_false_iff, Bool.and_eq_false_iff] at hp) <;> (first | omega | (simp only [go_sem, Nat.reduceAdd, Nat.reduceSub, Nat.reduceMul, Nat.reduceEqDiff, Nat.reduceLT, Nat.reduceLeDiff, Nat.reduceBEq, reduceIte, reduceCtorEq, Int.reduceToNat, Int.reduceLE, Int.reduceLT, Int.reduceBEq, Int.reduceBNe, hg, a23, a23r0, a23r1, a23r2, a23r3, a23r4, a23r5, a23r6, a23r7, a23r8, hw0]; clear hg))) | (refine condW_intro ?_ ?_ <;> intro hg <;> (have hp := hg; try simp only [decide_eq_true_eq, decide_eq_false_iff_not, beq_iff_eq, beq_eq_false_iff_ne, bne_iff_ne, bne_eq_false_iff_eq, Bool.not_eq_true', Bool.not_eq_false', Int.not_lt, Int.not_le, ne_eq, Bool.and_eq_true, Bool.or_eq_true, Bool.or_eq_false_iff, Bool.and_eq_false_iff] at hp) <;> (first | omega | (simp only [go_sem, Nat.reduceAdd, Nat.reduceSub, Nat.reduceMul, Nat.reduceEqDiff, Nat.reduceLT, Nat.reduceLeDiff, Nat.reduceBEq, reduceIte, reduceCtorEq, Int.reduceToNat, Int.reduceLE, Int.reduceLT, Int.reduceBEq, Int.reduceBNe, hg, a23, a23r0, a23r1, a23r2, a23r3, a23r4, a23r5, a23r6, a23r7, a23r8, hw0]; clear hg))))
        · exact Cl.fin rfl ⟨by rw [hpc, hb, hp]; simp, rfl⟩
        · refine Cl.here ⟨⟨1, p.to, by omega, hpos hp, fun h => by omega, hnext, ?_, rfl, rfl⟩, ?_⟩
          · rw [hb, hp, decide_eq_true (hfr hp)]; simp
          · simp only [go_sem, Nat.reduceAdd, Nat.reduceSub, Nat.reduceMul, Nat.reduceEqDiff, Nat.reduceLT, Nat.reduceLeDiff, Nat.reduceBEq, reduceIte, reduceCtorEq, Int.reduceToNat, Int.reduceLE, Int.reduceLT, Int.reduceBEq, Int.reduceBNe]
            omega
      · obtain ⟨j, rfl⟩ : ∃ j, i = j + 1 := ⟨i - 1, by omega⟩
        have hej := he1 j (by omega) rfl
        have hgm : (els l).getD j [] = [.int .i64 l[j].fr, .int .i64 l[j].to, .pure 2 (els l[j].br)] := by rw [els_getD (by omega), cel_pre]
        rw [← hej] at hgm
        have hj0 : (0 : Int) ≤ j := by omega
        have hj1 : (j : Int) < l.length := by omega
        have hwm : IntKind.i64.wrap (((j + 1 : Nat) : Int) - 1) = (j : Int) := by rw [wrap_i64 (by omega) (by omega)]; omega
        have hd1 : decide ((0 : Int) < ((j + 1 : Nat) : Int)) = true := decide_eq_true (by omega)
        simp only [go_sem, Nat.reduceAdd, Nat.reduceSub, Nat.reduceMul, Nat.reduceEqDiff, Nat.reduceLT, Nat.reduceLeDiff, Nat.reduceBEq, reduceIte, reduceCtorEq, Int.reduceToNat, Int.reduceLE, Int.reduceLT, Int.reduceBEq, Int.reduceBNe, a23, a23r0, a23r1, a23r2, a23r3, a23r4, a23r5, a23r6, a23r7, a23r8, hi0, hi1, hget]
        refine callD_det hone rfl rfl ?_
        simp only [go_sem, Nat.reduceAdd, Nat.reduceSub, Nat.reduceMul, Nat.reduceEqDiff, Nat.reduceLT, Nat.reduceLeDiff, Nat.reduceBEq, reduceIte, reduceCtorEq, Int.reduceToNat, Int.reduceLE, Int.reduceLT, Int.reduceBEq, Int.reduceBNe, hd1, hi0, hi1, hget, hwm, hgm, hj0, hj1]
        repeat' (first | (refine grdC_intro ?_ ?_ <;> intro hg <;> (have hp := hg; try simp only [decide_eq_true_eq, decide_eq_false_iff_not, beq_iff_eq, beq_eq_false_iff_ne, bne_iff_ne, bne_eq_false_iff_eq, Bool.not_eq_true', Bool.not_eq_false', Int.not_lt, Int.not_le, ne_eq, Bool.and_eq_true, Bool.or_eq_true, Bool.or_eq_false_iff, Bool.and_eq_false_iff] at hp) <;> (first | omega | (simp only [go_sem, Nat.reduceAdd, Nat.reduceSub, Nat.reduceMul, Nat.reduceEqDiff, Nat.reduceLT, Nat.reduceLeDiff, Nat.reduceBEq, reduceIte, reduceCtorEq, Int.reduceToNat, Int.reduceLE, Int.reduceLT, Int.reduceBEq, Int.reduceBNe, hg, a23, a23r0, a23r1, a23r2, a23r3, a23r4, a23r5, a23r6, a23r7, a23r8, hd1, hi0, hi1, hget, hwm, hgm, hj0, hj1, hw1]; clear hg))) | (refine grdD_intro ?_ ?_ <;> intro hg <;> (have hp := hg; try simp only [decide_eq_true_eq, decide_eq_false_iff_not, beq_iff_eq, beq_eq_false_iff_ne, bne_iff_ne, bne_eq_false_iff_eq, Bool.not_eq_true', Bool.not_eq_false', Int.not_lt, Int.not_le, ne_eq, Bool.and_eq_true, Bool.or_eq_true, Bool.or_eq_false_iff, Bool.and_eq_false_iff] at hp) <;> (first | omega | (simp only [go_sem, Nat.reduceAdd, Nat.reduceSub, Nat.reduceMul, Nat.reduceEqDiff, Nat.reduceLT, Nat.reduceLeDiff, Nat.reduceBEq, reduceIte, reduceCtorEq, Int.reduceToNat, Int.reduceLE, Int.reduceLT, Int.reduceBEq, Int.reduceBNe, hg, a23, a23r0, a23r1, a23r2, a23r3, a23r4, a23r5, a23r6, a23r7, a23r8, hd1, hi0, hi1, hget, hwm, hgm, hj0, hj1, hw1]; clear hg))) | (refine condC_intro ?_ ?_ <;> intro hg <;> (have hp := hg; try simp only [decide_eq_true_eq, decide_eq_false_iff_not, beq_iff_eq, beq_eq_false_iff_ne, bne_iff_ne, bne_eq_false_iff_eq, Bool.not_eq_true', Bool.not_eq_false', Int.not_lt, Int.not_le, ne_eq, Bool.and_eq_true, Bool.or_eq_true, Bool.or_eq_false_iff, Bool.and_eq_false_iff] at hp) <;> (first | omega | (simp only [go_sem, Nat.reduceAdd, Nat.reduceSub, Nat.reduceMul, Nat.reduceEqDiff, Nat.reduceLT, Nat.reduceLeDiff, Nat.reduceBEq, reduceIte, reduceCtorEq, Int.reduceToNat, Int.reduceLE, Int.reduceLT, Int.reduceBEq, Int.reduceBNe, hg, a23, a23r0, a23r1, a23r2, a23r3, a23r4, a23r5, a23r6, a23r7, a23r8, hd1, hi0, hi1, hget, hwm, hgm, hj0, hj1, hw1]; clear hg))) | (refine condW_intro ?_ ?_ <;> intro hg <;> (have hp := hg; try simp only [decide_eq_true_eq, decide_eq_false_iff_not, beq_iff_eq, beq_eq_false_iff_ne, bne_iff_ne, bne_eq_false_iff_eq, Bool.not_eq_true', Bool.not_eq_false', Int.not_lt, Int.not_le, ne_eq, Bool.and_eq_true, Bool.or_eq_true, Bool.or_eq_false_iff, Bool.and_eq_false_iff] at hp) <;> (first | omega | (simp only [go_sem, Nat.reduceAdd, Nat.reduceSub, Nat.reduceMul, Nat.reduceEqDiff, Nat.reduceLT, Nat.reduceLeDiff, Nat.reduceBEq, reduceIte, reduceCtorEq, Int.reduceToNat, Int.reduceLE, Int.reduceLT, Int.reduceBEq, Int.reduceBNe, hg, a23, a23r0, a23r1, a23r2, a23r3, a23r4, a23r5, a23r6, a23r7, a23r8, hd1, hi0, hi1, hget, hwm, hgm, hj0, hj1, hw1]; clear hg))))
        · exact Cl.fin rfl ⟨by rw [hpc, hb, hp]; simp, rfl⟩
        · exact Cl.fin rfl ⟨by rw [hpc, hb, decide_eq_false (p := e ≤ p.fr) (by omega)]; simp, rfl⟩
        · rename_i hp1
          refine Cl.here ⟨⟨j + 1 + 1, p.to, by omega, hpos hp1, fun h => by omega, hnext, ?_, rfl, rfl⟩, ?_⟩
          · rw [hb, hp1, decide_eq_true (p := e ≤ p.fr) (by omega)]; simp
          · simp only [go_sem, Nat.reduceAdd, Nat.reduceSub, Nat.reduceMul, Nat.reduceEqDiff, Nat.reduceLT, Nat.reduceLeDiff, Nat.reduceBEq, reduceIte, reduceCtorEq, Int.reduceToNat, Int.reduceLE, Int.reduceLT, Int.reduceBEq, Int.reduceBNe]
            omega
    · have : i = l.length := by omega
      subst this
      exact Cl.fin rfl ⟨by rw [hpc, hb]; simp [presOk], rfl⟩

theorem refMin_ok (p : Pre) : AFn Try.prog 24 [.agg (Cel.c p)] [] (fun v rs => v = .int .i64 (pmin p) ∧ rs = []) := by
  refine afn Try.func24 a24_ok (by simp [a24]) ?_
  simp only [go_sem, Nat.reduceAdd, Nat.reduceSub, Nat.reduceMul, Nat.reduceEqDiff, Nat.reduceLT, Nat.reduceLeDiff, Nat.reduceBEq, reduceIte, reduceCtorEq, Int.reduceToNat, Int.reduceLE, Int.reduceLT, Int.reduceBEq, Int.reduceBNe, a24, a24r0, a24r1, a24r2, a24r3, a24r4, a24r5, a24r6, a24r7, a24r8, cel_pre]
  refine callC_det (one_ok p) rfl rfl ?_
  simp only [go_sem, Nat.reduceAdd, Nat.reduceSub, Nat.reduceMul, Nat.reduceEqDiff, Nat.reduceLT, Nat.reduceLeDiff, Nat.reduceBEq, reduceIte, reduceCtorEq, Int.reduceToNat, Int.reduceLE, Int.reduceLT, Int.reduceBEq, Int.reduceBNe]
  refine condC_intro ?_ ?_ <;> intro hg1 <;> simp only [decide_eq_true_eq, decide_eq_false_iff_not, beq_iff_eq, beq_eq_false_iff_ne, bne_iff_ne, bne_eq_false_iff_eq, Bool.not_eq_true', Bool.not_eq_false', Int.not_lt, Int.not_le, ne_eq, Bool.and_eq_true, Bool.or_eq_true, Bool.or_eq_false_iff, Bool.and_eq_false_iff] at hg1 <;> simp only [go_sem, Nat.reduceAdd, Nat.reduceSub, Nat.reduceMul, Nat.reduceEqDiff, Nat.reduceLT, Nat.reduceLeDiff, Nat.reduceBEq, reduceIte, reduceCtorEq, Int.reduceToNat, Int.reduceLE, Int.reduceLT, Int.reduceBEq, Int.reduceBNe, a24, a24r0, a24r1, a24r2, a24r3, a24r4, a24r5, a24r6, a24r7, a24r8]
  · exact Cl.fin rfl ⟨by rw [pmin, if_neg (by rw [pvalid_one, hg1]; simp)], rfl⟩
  have hv := hg1
  simp only [preOk, ivIn, Bool.and_eq_true, decide_eq_true_eq] at hv
  have hbm := brMin_bd hv.2 (by omega)
  rw [show pmin p = p.to - p.fr - brMin p.br from by rw [pmin, if_pos (pvalid_one.2 hg1)]]
  rw [wrap_i64 (by omega) (by omega)]
  refine avc_loop (fun env rows => ∃ (k : Nat) (e m : Int), k ≤ p.br.length ∧ p.fr ≤ e ∧ e ≤ p.to ∧ brOk e p.to (p.br.drop k) = true ∧ m - brMin (p.br.drop k) = p.to - p.fr - brMin p.br ∧ env = [(1, .ref 0 1 0 0), (3, .int .i64 m), (4, .int .i64 k)] ∧ rows = [.live 29 3 [[.int .i64 p.fr, .int .i64 p.to, .pure 2 (els p.br)]]])
    (fun env _ => match slot env 4 with | .int _ j => (p.br.length - j).toNat | _ => 0) ?_ ?_
  · exact Cl.here ⟨0, p.fr, _, by omega, by omega, by omega, by simp [hv.2], by simp, rfl, rfl⟩
  · rintro env rows ⟨k, e, m, hk, he0, he1, hbo, hm, rfl, rfl⟩
    simp only [go_sem, Nat.reduceAdd, Nat.reduceSub, Nat.reduceMul, Nat.reduceEqDiff, Nat.reduceLT, Nat.reduceLeDiff, Nat.reduceBEq, reduceIte, reduceCtorEq, Int.reduceToNat, Int.reduceLE, Int.reduceLT, Int.reduceBEq, Int.reduceBNe, a24, a24r0, a24r1, a24r2, a24r3, a24r4, a24r5, a24r6, a24r7, a24r8]
    refine condC_intro ?_ ?_ <;> intro hg3 <;> simp only [decide_eq_true_eq, decide_eq_false_iff_not, beq_iff_eq, beq_eq_false_iff_ne, bne_iff_ne, bne_eq_false_iff_eq, Bool.not_eq_true', Bool.not_eq_false', Int.not_lt, Int.not_le, ne_eq, Bool.and_eq_true, Bool.or_eq_true, Bool.or_eq_false_iff, Bool.and_eq_false_iff] at hg3 <;> simp only [go_sem, Nat.reduceAdd, Nat.reduceSub, Nat.reduceMul, Nat.reduceEqDiff, Nat.reduceLT, Nat.reduceLeDiff, Nat.reduceBEq, reduceIte, reduceCtorEq, Int.reduceToNat, Int.reduceLE, Int.reduceLT, Int.reduceBEq, Int.reduceBNe, a24, a24r0, a24r1, a24r2, a24r3, a24r4, a24r5, a24r6, a24r7, a24r8]
    · have hlt2 : k < p.br.length := by omega
      have hbd := brMin_bd hbo he1
      rw [drop_cons hlt2, brOk] at hbo
      rw [brMin_drop hlt2] at hm hbd
      simp only [Bool.and_eq_true, ivIn, decide_eq_true_eq] at hbo
      have hk0 : (0 : Int) ≤ k := by omega
      have hk1 : (k : Int) < p.br.length := by omega
      have hget2 : (els p.br).getD k [] = [.int .i64 p.br[k].fr, .int .i64 p.br[k].to] := by rw [els_getD hlt2, cel_iv]
      generalize p.br[k] = b at hbo hm hbd hget2
      have hbd2 := brMin_bd hbo.2 (by omega)
      have hw : IntKind.i64.wrap ((k : Int) + 1) = ((k + 1 : Nat) : Int) := by rw [wrap_i64 (by omega) (by omega)]; omega
      simp only [go_sem, Nat.reduceAdd, Nat.reduceSub, Nat.reduceMul, Nat.reduceEqDiff, Nat.reduceLT, Nat.reduceLeDiff, Nat.reduceBEq, reduceIte, reduceCtorEq, Int.reduceToNat, Int.reduceLE, Int.reduceLT, Int.reduceBEq, Int.reduceBNe, a24, a24r0, a24r1, a24r2, a24r3, a24r4, a24r5, a24r6, a24r7, a24r8, hk0, hk1, hget2, hw]
      rw [wrap_i64 (x := b.to - b.fr) (by omega) (by omega), wrap_i64 (by omega) (by omega)]
      refine Cl.here ⟨⟨k + 1, b.to, _, by omega, by omega, by omega, hbo.2, by omega, rfl, rfl⟩, ?_⟩
      simp only [go_sem, Nat.reduceAdd, Nat.reduceSub, Nat.reduceMul, Nat.reduceEqDiff, Nat.reduceLT, Nat.reduceLeDiff, Nat.reduceBEq, reduceIte, reduceCtorEq, Int.reduceToNat, Int.reduceLE, Int.reduceLT, Int.reduceBEq, Int.reduceBNe]
      omega
    · have hkk : k = p.br.length := by omega
      rw [hkk, List.drop_length, brMin] at hm
      exact Cl.fin rfl ⟨by rw [show p.to - p.fr - brMin p.br = m from by omega], rfl⟩

end Go.Proofs.Ytjacobmkfkmdiaa
