/- Valid, Minutes. -/
import Derived.Test.YtjacobmkfkmdiaaA2Pr2
set_option linter.unusedSimpArgs false
set_option linter.unusedVariables false
set_option linter.unusedSectionVars false
namespace Go.Proofs.Ytjacobmkfkmdiaa
open Go Go.Abs
set_option linter.unusedSimpArgs false

def ivIn (v : Iv) (a b : Int) : Bool := decide (a ≤ v.fr ∧ v.fr < v.to ∧ v.to ≤ b)
def brOk : Int → Int → List Iv → Bool
  | _, _, [] => true
  | e, t, b :: r => ivIn b e t && brOk b.to t r
def preOk (e : Int) (p : Pre) : Bool := ivIn ⟨p.fr, p.to⟩ e 120968640 && decide (p.br.length ≤ 1024) && brOk p.fr p.to p.br
def presOk : Int → List Pre → Bool
  | _, [] => true
  | e, p :: r => preOk e p && presOk p.to r
def pvalid (l : List Pre) : Int := if 1024 < l.length then 1 else if presOk 0 l then 0 else 1

theorem within_ok (f t a b : Int) : AFn Try.prog 50 [.agg [.int .i64 f, .int .i64 t], .int .i64 a, .int .i64 b] [] (fun v rs => v = .bool (ivIn ⟨f, t⟩ a b) ∧ rs = []) := by
  refine afn Try.func50 a50_ok (by simp [a50]) ?_
  simp only [go_sem, Nat.reduceAdd, Nat.reduceSub, Nat.reduceMul, Nat.reduceEqDiff, Nat.reduceLT, Nat.reduceLeDiff, Nat.reduceBEq, reduceIte, reduceCtorEq, Int.reduceToNat, Int.reduceLE, Int.reduceLT, Int.reduceBEq, Int.reduceBNe, a50, a50r0, a50r1]
  repeat' (first | (refine grdC_intro ?_ ?_ <;> intro hg <;> (have hp := hg; try simp only [decide_eq_true_eq, decide_eq_false_iff_not, beq_iff_eq, beq_eq_false_iff_ne, bne_iff_ne, bne_eq_false_iff_eq, Bool.not_eq_true', Bool.not_eq_false', Int.not_lt, Int.not_le, ne_eq, Bool.and_eq_true, Bool.or_eq_true, Bool.or_eq_false_iff, Bool.and_eq_false_iff] at hp) <;> (first | omega | (simp only [go_sem, Nat.reduceAdd, Nat.reduceSub, Nat.reduceMul, Nat.reduceEqDiff, Nat.reduceLT, Nat.reduceLeDiff, Nat.reduceBEq, reduceIte, reduceCtorEq, Int.reduceToNat, Int.reduceLE, Int.reduceLT, Int.reduceBEq, Int.reduceBNe, hg, a50, a50r0, a50r1]; clear hg))) | (refine grdD_intro ?_ ?_ <;> intro hg <;> (have hp := hg; try simp only [decide_eq_true_eq, decide_eq_false_iff_not, beq_iff_eq, beq_eq_false_iff_ne, bne_iff_ne, bne_eq_false_iff_eq, Bool.not_eq_true', Bool.not_eq_false', Int.not_lt, Int.not_le, ne_eq, Bool.and_eq_true, Bool.or_eq_true, Bool.or_eq_false_iff, Bool.and_eq_false_iff] at hp) <;> (first | omega | (simp only [go_sem, Nat.reduceAdd, Nat.reduceSub, Nat.reduceMul, Nat.reduceEqDiff, Nat.reduceLT, Nat.reduceLeDiff, Nat.reduceBEq, reduceIte, reduceCtorEq, Int.reduceToNat, Int.reduceLE, Int.reduceLT, Int.reduceBEq, Int.reduceBNe, hg, a50, a50r0, a50r1]; clear hg))) | (refine condC_intro ?_ ?_ <;> intro hg <;> (have hp := hg; try simp only [decide_eq_true_eq, decide_eq_false_iff_not, beq_iff_eq, beq_eq_false_iff_ne, bne_iff_ne, bne_eq_false_iff_eq, Bool.not_eq_true', Bool.not_eq_false', Int.not_lt, Int.not_le, ne_eq, Bool.and_eq_true, Bool.or_eq_true, Bool.or_eq_false_iff, Bool.and_eq_false_iff] at hp) <;> (first | omega | (simp only [go_sem, Nat.reduceAdd, Nat.reduceSub, Nat.reduceMul, Nat.reduceEqDiff, Nat.reduceLT, Nat.reduceLeDiff, Nat.reduceBEq, reduceIte, reduceCtorEq, Int.reduceToNat, Int.reduceLE, Int.reduceLT, Int.reduceBEq, Int.reduceBNe, hg, a50, a50r0, a50r1]; clear hg))) | (refine condW_intro ?_ ?_ <;> intro hg <;> (have hp := hg; try simp only [decide_eq_true_eq, decide_eq_false_iff_not, beq_iff_eq, beq_eq_false_iff_ne, bne_iff_ne, bne_eq_false_iff_eq, Bool.not_eq_true', Bool.not_eq_false', Int.not_lt, Int.not_le, ne_eq, Bool.and_eq_true, Bool.or_eq_true, Bool.or_eq_false_iff, Bool.and_eq_false_iff] at hp) <;> (first | omega | (simp only [go_sem, Nat.reduceAdd, Nat.reduceSub, Nat.reduceMul, Nat.reduceEqDiff, Nat.reduceLT, Nat.reduceLeDiff, Nat.reduceBEq, reduceIte, reduceCtorEq, Int.reduceToNat, Int.reduceLE, Int.reduceLT, Int.reduceBEq, Int.reduceBNe, hg, a50, a50r0, a50r1]; clear hg))))
  all_goals (refine Cl.fin rfl ⟨congrArg AVal.bool ?_, rfl⟩; rw [ivIn, Bool.eq_iff_iff]; simp only [decide_eq_true_eq, decide_eq_false_iff_not, beq_iff_eq, beq_eq_false_iff_ne, bne_iff_ne, bne_eq_false_iff_eq, Bool.not_eq_true', Bool.not_eq_false', Int.not_lt, Int.not_le, ne_eq, Bool.and_eq_true, Bool.or_eq_true, Bool.or_eq_false_iff, Bool.and_eq_false_iff, Bool.false_eq_true, false_iff]; omega)

theorem valid_ok (l : List Pre) (hl : l.length ≤ 9223372036854775806) : AFn Try.prog 16 [.pure 3 (els l)] [] (fun v rs => v = .int .i64 (pvalid l) ∧ rs = []) := by
  refine afn Try.func16 a16_ok (by simp [a16]) ?_
  simp only [go_sem, Nat.reduceAdd, Nat.reduceSub, Nat.reduceMul, Nat.reduceEqDiff, Nat.reduceLT, Nat.reduceLeDiff, Nat.reduceBEq, reduceIte, reduceCtorEq, Int.reduceToNat, Int.reduceLE, Int.reduceLT, Int.reduceBEq, Int.reduceBNe, a16, a16r0, a16r1, a16r2, a16r3, a16r4, a16r5, a16r6, a16r7, a16r8, a16r9, a16r10, a16r11, a16r12, a16r13, a16r14, a16r15, a16r16, a16r17, a16r18, a16r19]
  refine condC_intro ?_ ?_ <;> intro hg1 <;> simp only [decide_eq_true_eq, decide_eq_false_iff_not, beq_iff_eq, beq_eq_false_iff_ne, bne_iff_ne, bne_eq_false_iff_eq, Bool.not_eq_true', Bool.not_eq_false', Int.not_lt, Int.not_le, ne_eq, Bool.and_eq_true, Bool.or_eq_true, Bool.or_eq_false_iff, Bool.and_eq_false_iff] at hg1 <;> simp only [go_sem, Nat.reduceAdd, Nat.reduceSub, Nat.reduceMul, Nat.reduceEqDiff, Nat.reduceLT, Nat.reduceLeDiff, Nat.reduceBEq, reduceIte, reduceCtorEq, Int.reduceToNat, Int.reduceLE, Int.reduceLT, Int.reduceBEq, Int.reduceBNe, a16, a16r0, a16r1, a16r2, a16r3, a16r4, a16r5, a16r6, a16r7, a16r8, a16r9, a16r10, a16r11, a16r12, a16r13, a16r14, a16r15, a16r16, a16r17, a16r18, a16r19]
  · exact Cl.fin rfl ⟨by rw [pvalid, if_pos (by omega)], rfl⟩
  have hpc : pvalid l = if presOk 0 l then 0 else 1 := by rw [pvalid, if_neg (by omega)]
  refine avc_loop (fun env rows => ∃ (i : Nat) (e : Int), i ≤ l.length ∧ presOk 0 l = presOk e (l.drop i) ∧ env = [(3, .int .i64 e), (11, .pure 3 (els l)), (12, .int .i64 l.length), (13, .int .i64 i)] ∧ rows = [])
    (fun env _ => match slot env 13 with | .int _ j => (l.length - j).toNat | _ => 0) ?_ ?_
  · exact Cl.here ⟨0, 0, by omega, by simp, rfl, rfl⟩
  · rintro env rows ⟨i, e, hi, hb, rfl, rfl⟩
    simp only [go_sem, Nat.reduceAdd, Nat.reduceSub, Nat.reduceMul, Nat.reduceEqDiff, Nat.reduceLT, Nat.reduceLeDiff, Nat.reduceBEq, reduceIte, reduceCtorEq, Int.reduceToNat, Int.reduceLE, Int.reduceLT, Int.reduceBEq, Int.reduceBNe, a16, a16r0, a16r1, a16r2, a16r3, a16r4, a16r5, a16r6, a16r7, a16r8, a16r9, a16r10, a16r11, a16r12, a16r13, a16r14, a16r15, a16r16, a16r17, a16r18, a16r19]
    refine condC_intro ?_ ?_ <;> intro hg2 <;> simp only [decide_eq_true_eq, decide_eq_false_iff_not, beq_iff_eq, beq_eq_false_iff_ne, bne_iff_ne, bne_eq_false_iff_eq, Bool.not_eq_true', Bool.not_eq_false', Int.not_lt, Int.not_le, ne_eq, Bool.and_eq_true, Bool.or_eq_true, Bool.or_eq_false_iff, Bool.and_eq_false_iff] at hg2 <;> simp only [go_sem, Nat.reduceAdd, Nat.reduceSub, Nat.reduceMul, Nat.reduceEqDiff, Nat.reduceLT, Nat.reduceLeDiff, Nat.reduceBEq, reduceIte, reduceCtorEq, Int.reduceToNat, Int.reduceLE, Int.reduceLT, Int.reduceBEq, Int.reduceBNe, a16, a16r0, a16r1, a16r2, a16r3, a16r4, a16r5, a16r6, a16r7, a16r8, a16r9, a16r10, a16r11, a16r12, a16r13, a16r14, a16r15, a16r16, a16r17, a16r18, a16r19]
    · have hlt : i < l.length := by omega
      refine ⟨by omega, by omega, ?_⟩
      try simp only [Int.toNat_natCast]
      rw [els_getD hlt, cel_pre]
      rw [drop_cons hlt, presOk] at hb
      generalize l[i] = p at hb ⊢
      simp only [go_sem, Nat.reduceAdd, Nat.reduceSub, Nat.reduceMul, Nat.reduceEqDiff, Nat.reduceLT, Nat.reduceLeDiff, Nat.reduceBEq, reduceIte, reduceCtorEq, Int.reduceToNat, Int.reduceLE, Int.reduceLT, Int.reduceBEq, Int.reduceBNe, a16, a16r0, a16r1, a16r2, a16r3, a16r4, a16r5, a16r6, a16r7, a16r8, a16r9, a16r10, a16r11, a16r12, a16r13, a16r14, a16r15, a16r16, a16r17, a16r18, a16r19]
      refine callC_det (within_ok p.fr p.to e 120968640) rfl rfl ?_
      simp only [go_sem, Nat.reduceAdd, Nat.reduceSub, Nat.reduceMul, Nat.reduceEqDiff, Nat.reduceLT, Nat.reduceLeDiff, Nat.reduceBEq, reduceIte, reduceCtorEq, Int.reduceToNat, Int.reduceLE, Int.reduceLT, Int.reduceBEq, Int.reduceBNe]
      repeat' (first | (refine grdC_intro ?_ ?_ <;> intro hg <;> (have hp := hg; try simp only [decide_eq_true_eq, decide_eq_false_iff_not, beq_iff_eq, beq_eq_false_iff_ne, bne_iff_ne, bne_eq_false_iff_eq, Bool.not_eq_true', Bool.not_eq_false', Int.not_lt, Int.not_le, ne_eq, Bool.and_eq_true, Bool.or_eq_true, Bool.or_eq_false_iff, Bool.and_eq_false_iff] at hp) <;> (first | omega | (simp only [go_sem, Nat.reduceAdd, Nat.reduceSub, Nat.reduceMul, Nat.reduceEqDiff, Nat.reduceLT, Nat.reduceLeDiff, Nat.reduceBEq, reduceIte, reduceCtorEq, Int.reduceToNat, Int.reduceLE, Int.reduceLT, Int.reduceBEq, Int.reduceBNe, hg, a16, a16r0, a16r1, a16r2, a16r3, a16r4, a16r5, a16r6, a16r7, a16r8, a16r9, a16r10, a16r11, a16r12, a16r13, a16r14, a16r15, a16r16, a16r17, a16r18, a16r19]; clear hg))) | (refine grdD_intro ?_ ?_ <;> intro hg <;> (have hp := hg; try simp only [decide_eq_true_eq, decide_eq_false_iff_not, beq_iff_eq, beq_eq_false_iff_ne, bne_iff_ne, bne_eq_false_iff_eq, Bool.not_eq_true', Bool.not_eq_false', Int.not_lt, Int.not_le, ne_eq, Bool.and_eq_true, Bool.or_eq_true, Bool.or_eq_false_iff, Bool.and_eq_false_iff] at hp) <;> (first | omega | (simp only [go_sem, Nat.reduceAdd, Nat.reduceSub, Nat.reduceMul, Nat.reduceEqDiff, Nat.reduceLT, Nat.reduceLeDiff, Nat.reduceBEq, reduceIte, reduceCtorEq, Int.reduceToNat, Int.reduceLE, Int.reduceLT, Int.reduceBEq, Int.reduceBNe, hg, a16, a16r0, a16r1, a16r2, a16r3, a16r4, a16r5, a16r6, a16r7, a16r8, a16r9, a16r10, a16r11, a16r12, a16r13, a16r14, a16r15, a16r16, a16r17, a16r18, a16r19]; clear hg))) | (refine condC_intro ?_ ?_ <;> intro hg <;> (have hp := hg; try simp only [decide_eq_true_eq, decide_eq_false_iff_not, beq_iff_eq, beq_eq_false_iff_ne, bne_iff_ne, bne_eq_false_iff_eq, Bool.not_eq_true', Bool.not_eq_false', Int.not_lt, Int.not_le, ne_eq, Bool.and_eq_true, Bool.or_eq_true, Bool.or_eq_false_iff, Bool.and_eq_false_iff] at hp) <;> (first | omega | (simp only [go_sem, Nat.reduceAdd, Nat.reduceSub, Nat.reduceMul, Nat.reduceEqDiff, Nat.reduceLT, Nat.reduceLeDiff, Nat.reduceBEq, reduceIte, reduceCtorEq, Int.reduceToNat, Int.reduceLE, Int.reduceLT, Int.reduceBEq, Int.reduceBNe, hg, a16, a16r0, a16r1, a16r2, a16r3, a16r4, a16r5, a16r6, a16r7, a16r8, a16r9, a16r10, a16r11, a16r12, a16r13, a16r14, a16r15, a16r16, a16r17, a16r18, a16r19]; clear hg))) | (refine condW_intro ?_ ?_ <;> intro hg <;> (have hp := hg; try simp only [decide_eq_true_eq, decide_eq_false_iff_not, beq_iff_eq, beq_eq_false_iff_ne, bne_iff_ne, bne_eq_false_iff_eq, Bool.not_eq_true', Bool.not_eq_false', Int.not_lt, Int.not_le, ne_eq, Bool.and_eq_true, Bool.or_eq_true, Bool.or_eq_false_iff, Bool.and_eq_false_iff] at hp) <;> (first | omega | (simp only [go_sem, Nat.reduceAdd, Nat.reduceSub, Nat.reduceMul, Nat.reduceEqDiff, Nat.reduceLT, Nat.reduceLeDiff, Nat.reduceBEq, reduceIte, reduceCtorEq, Int.reduceToNat, Int.reduceLE, Int.reduceLT, Int.reduceBEq, Int.reduceBNe, hg, a16, a16r0, a16r1, a16r2, a16r3, a16r4, a16r5, a16r6, a16r7, a16r8, a16r9, a16r10, a16r11, a16r12, a16r13, a16r14, a16r15, a16r16, a16r17, a16r18, a16r19]; clear hg))))
      · exact Cl.fin rfl ⟨by rw [hpc, hb, preOk, hp]; simp, rfl⟩
      · exact Cl.fin rfl ⟨by rw [hpc, hb, preOk, decide_eq_false (p := p.br.length ≤ 1024) (by omega)]; simp, rfl⟩
      rename_i hin
      refine avc_loop (fun env rows => ∃ (k : Nat) (e : Int), k ≤ p.br.length ∧ brOk p.fr p.to p.br = brOk e p.to (p.br.drop k) ∧ env = [(3, .int .i64 e), (5, .ref 0 1 0 0), (11, .pure 3 (els l)), (12, .int .i64 l.length), (13, .int .i64 i), (32, .pure 2 (els p.br)), (33, .int .i64 p.br.length), (34, .int .i64 k)] ∧ rows = [.live 29 3 [[.int .i64 p.fr, .int .i64 p.to, .pure 2 (els p.br)]]])
        (fun env _ => match slot env 34 with | .int _ j => (p.br.length - j).toNat | _ => 0) ?_ ?_
      · exact Cl.here ⟨0, p.fr, by omega, by simp, rfl, rfl⟩
      · rintro env rows ⟨k, e, hk, hbr, rfl, rfl⟩
        simp only [go_sem, Nat.reduceAdd, Nat.reduceSub, Nat.reduceMul, Nat.reduceEqDiff, Nat.reduceLT, Nat.reduceLeDiff, Nat.reduceBEq, reduceIte, reduceCtorEq, Int.reduceToNat, Int.reduceLE, Int.reduceLT, Int.reduceBEq, Int.reduceBNe, a16, a16r0, a16r1, a16r2, a16r3, a16r4, a16r5, a16r6, a16r7, a16r8, a16r9, a16r10, a16r11, a16r12, a16r13, a16r14, a16r15, a16r16, a16r17, a16r18, a16r19]
        refine condC_intro ?_ ?_ <;> intro hg3 <;> simp only [decide_eq_true_eq, decide_eq_false_iff_not, beq_iff_eq, beq_eq_false_iff_ne, bne_iff_ne, bne_eq_false_iff_eq, Bool.not_eq_true', Bool.not_eq_false', Int.not_lt, Int.not_le, ne_eq, Bool.and_eq_true, Bool.or_eq_true, Bool.or_eq_false_iff, Bool.and_eq_false_iff] at hg3 <;> simp only [go_sem, Nat.reduceAdd, Nat.reduceSub, Nat.reduceMul, Nat.reduceEqDiff, Nat.reduceLT, Nat.reduceLeDiff, Nat.reduceBEq, reduceIte, reduceCtorEq, Int.reduceToNat, Int.reduceLE, Int.reduceLT, Int.reduceBEq, Int.reduceBNe, a16, a16r0, a16r1, a16r2, a16r3, a16r4, a16r5, a16r6, a16r7, a16r8, a16r9, a16r10, a16r11, a16r12, a16r13, a16r14, a16r15, a16r16, a16r17, a16r18, a16r19]
        · have hlt2 : k < p.br.length := by omega
          refine ⟨by omega, by omega, ?_⟩
          try simp only [Int.toNat_natCast]
          rw [els_getD hlt2, cel_iv]
          rw [drop_cons hlt2, brOk] at hbr
          generalize p.br[k] = b at hbr ⊢
          simp only [go_sem, Nat.reduceAdd, Nat.reduceSub, Nat.reduceMul, Nat.reduceEqDiff, Nat.reduceLT, Nat.reduceLeDiff, Nat.reduceBEq, reduceIte, reduceCtorEq, Int.reduceToNat, Int.reduceLE, Int.reduceLT, Int.reduceBEq, Int.reduceBNe, a16, a16r0, a16r1, a16r2, a16r3, a16r4, a16r5, a16r6, a16r7, a16r8, a16r9, a16r10, a16r11, a16r12, a16r13, a16r14, a16r15, a16r16, a16r17, a16r18, a16r19]
          refine callC_det (within_ok b.fr b.to e p.to) rfl rfl ?_
          simp only [go_sem, Nat.reduceAdd, Nat.reduceSub, Nat.reduceMul, Nat.reduceEqDiff, Nat.reduceLT, Nat.reduceLeDiff, Nat.reduceBEq, reduceIte, reduceCtorEq, Int.reduceToNat, Int.reduceLE, Int.reduceLT, Int.reduceBEq, Int.reduceBNe]
          have hw : IntKind.i64.wrap ((k : Int) + 1) = ((k + 1 : Nat) : Int) := by rw [wrap_i64 (by omega) (by omega)]; omega
          refine condC_intro ?_ ?_ <;> intro hg4 <;> simp only [decide_eq_true_eq, decide_eq_false_iff_not, beq_iff_eq, beq_eq_false_iff_ne, bne_iff_ne, bne_eq_false_iff_eq, Bool.not_eq_true', Bool.not_eq_false', Int.not_lt, Int.not_le, ne_eq, Bool.and_eq_true, Bool.or_eq_true, Bool.or_eq_false_iff, Bool.and_eq_false_iff] at hg4 <;> simp only [go_sem, Nat.reduceAdd, Nat.reduceSub, Nat.reduceMul, Nat.reduceEqDiff, Nat.reduceLT, Nat.reduceLeDiff, Nat.reduceBEq, reduceIte, reduceCtorEq, Int.reduceToNat, Int.reduceLE, Int.reduceLT, Int.reduceBEq, Int.reduceBNe, a16, a16r0, a16r1, a16r2, a16r3, a16r4, a16r5, a16r6, a16r7, a16r8, a16r9, a16r10, a16r11, a16r12, a16r13, a16r14, a16r15, a16r16, a16r17, a16r18, a16r19, hw]
          · refine Cl.fin rfl ⟨?_, rfl⟩
            rw [hpc, hb, preOk, hbr]
            rw [show ivIn b e p.to = false from hg4]; simp
          · (refine Cl.tr [some 0] [] rfl rfl (by simp only [go_sem, Nat.reduceAdd, Nat.reduceSub, Nat.reduceMul, Nat.reduceEqDiff, Nat.reduceLT, Nat.reduceLeDiff, Nat.reduceBEq, reduceIte, reduceCtorEq, Int.reduceToNat, Int.reduceLE, Int.reduceLT, Int.reduceBEq, Int.reduceBNe] <;> rfl) ?_; simp only [go_sem, Nat.reduceAdd, Nat.reduceSub, Nat.reduceMul, Nat.reduceEqDiff, Nat.reduceLT, Nat.reduceLeDiff, Nat.reduceBEq, reduceIte, reduceCtorEq, Int.reduceToNat, Int.reduceLE, Int.reduceLT, Int.reduceBEq, Int.reduceBNe])
            refine Cl.here ⟨⟨k + 1, b.to, by omega, ?_, rfl, rfl⟩, ?_⟩
            · rw [hbr, show ivIn b e p.to = true from hg4, Bool.true_and]
            · simp only [go_sem, Nat.reduceAdd, Nat.reduceSub, Nat.reduceMul, Nat.reduceEqDiff, Nat.reduceLT, Nat.reduceLeDiff, Nat.reduceBEq, reduceIte, reduceCtorEq, Int.reduceToNat, Int.reduceLE, Int.reduceLT, Int.reduceBEq, Int.reduceBNe]
              omega
        · have hkk : k = p.br.length := by omega
          rw [hkk, List.drop_length, brOk] at hbr
          have hw : IntKind.i64.wrap ((i : Int) + 1) = ((i + 1 : Nat) : Int) := by rw [wrap_i64 (by omega) (by omega)]; omega
          rw [hw]
          (refine Cl.tr [] [] rfl rfl (by simp only [go_sem, Nat.reduceAdd, Nat.reduceSub, Nat.reduceMul, Nat.reduceEqDiff, Nat.reduceLT, Nat.reduceLeDiff, Nat.reduceBEq, reduceIte, reduceCtorEq, Int.reduceToNat, Int.reduceLE, Int.reduceLT, Int.reduceBEq, Int.reduceBNe] <;> rfl) ?_; simp only [go_sem, Nat.reduceAdd, Nat.reduceSub, Nat.reduceMul, Nat.reduceEqDiff, Nat.reduceLT, Nat.reduceLeDiff, Nat.reduceBEq, reduceIte, reduceCtorEq, Int.reduceToNat, Int.reduceLE, Int.reduceLT, Int.reduceBEq, Int.reduceBNe])
          refine Cl.here ⟨⟨i + 1, p.to, by omega, ?_, rfl, rfl⟩, ?_⟩
          · rw [hb, preOk, hin, hbr, decide_eq_true (p := p.br.length ≤ 1024) (by omega)]; simp
          · simp only [go_sem, Nat.reduceAdd, Nat.reduceSub, Nat.reduceMul, Nat.reduceEqDiff, Nat.reduceLT, Nat.reduceLeDiff, Nat.reduceBEq, reduceIte, reduceCtorEq, Int.reduceToNat, Int.reduceLE, Int.reduceLT, Int.reduceBEq, Int.reduceBNe]
            omega
    · have : i = l.length := by omega
      subst this
      exact Cl.fin rfl ⟨by rw [hpc, hb]; simp [presOk], rfl⟩

/-- the minutes of breaks -/
def brMin : List Iv → Int
  | [] => 0
  | b :: r => (b.to - b.fr) + brMin r
def pmin (p : Pre) : Int := if pvalid [p] = 0 then p.to - p.fr - brMin p.br else 0
theorem brMin_bd : ∀ {l : List Iv} {e t : Int}, brOk e t l = true → e ≤ t → 0 ≤ brMin l ∧ brMin l ≤ t - e
  | [], e, t, _, h => by simp [brMin]; omega
  | b :: r, e, t, h, _ => by
    simp only [brOk, ivIn, Bool.and_eq_true, decide_eq_true_eq] at h
    have := brMin_bd h.2 (by omega)
    simp only [brMin]; omega
theorem brMin_drop : ∀ {l : List Iv} {k : Nat} (h : k < l.length), brMin (l.drop k) = (l[k].to - l[k].fr) + brMin (l.drop (k + 1)) := by
  intro l k h
  rw [drop_cons h, brMin]
theorem pvalid_one {p : Pre} : pvalid [p] = 0 ↔ preOk 0 p = true := by
  simp [pvalid, presOk]

theorem min_ok (p : Pre) : AFn Try.prog 17 [.agg (Cel.c p)] [] (fun v rs => v = .int .i64 (pmin p) ∧ rs = []) := by
  refine afn Try.func17 a17_ok (by simp [a17]) ?_
  simp only [go_sem, Nat.reduceAdd, Nat.reduceSub, Nat.reduceMul, Nat.reduceEqDiff, Nat.reduceLT, Nat.reduceLeDiff, Nat.reduceBEq, reduceIte, reduceCtorEq, Int.reduceToNat, Int.reduceLE, Int.reduceLT, Int.reduceBEq, Int.reduceBNe, a17, a17r0, a17r1, a17r2, a17r3, a17r4, a17r5, a17r6, a17r7, a17r8, a17r9, cel_pre]
  refine callC_of [] [1] (by decide) rfl (by simp only [go_sem, Nat.reduceAdd, Nat.reduceSub, Nat.reduceMul, Nat.reduceEqDiff, Nat.reduceLT, Nat.reduceLeDiff, Nat.reduceBEq, reduceIte, reduceCtorEq, Int.reduceToNat, Int.reduceLE, Int.reduceLT, Int.reduceBEq, Int.reduceBNe] <;> rfl) (valid_ok [p] (by simp)) ?_
  rintro _ _ ⟨rfl, rfl⟩
  refine ⟨.inr ⟨rfl, rfl⟩, ?_⟩
  simp only [go_sem, Nat.reduceAdd, Nat.reduceSub, Nat.reduceMul, Nat.reduceEqDiff, Nat.reduceLT, Nat.reduceLeDiff, Nat.reduceBEq, reduceIte, reduceCtorEq, Int.reduceToNat, Int.reduceLE, Int.reduceLT, Int.reduceBEq, Int.reduceBNe]
  refine condC_intro ?_ ?_ <;> intro hg1 <;> simp only [decide_eq_true_eq, decide_eq_false_iff_not, beq_iff_eq, beq_eq_false_iff_ne, bne_iff_ne, bne_eq_false_iff_eq, Bool.not_eq_true', Bool.not_eq_false', Int.not_lt, Int.not_le, ne_eq, Bool.and_eq_true, Bool.or_eq_true, Bool.or_eq_false_iff, Bool.and_eq_false_iff] at hg1 <;> simp only [go_sem, Nat.reduceAdd, Nat.reduceSub, Nat.reduceMul, Nat.reduceEqDiff, Nat.reduceLT, Nat.reduceLeDiff, Nat.reduceBEq, reduceIte, reduceCtorEq, Int.reduceToNat, Int.reduceLE, Int.reduceLT, Int.reduceBEq, Int.reduceBNe, a17, a17r0, a17r1, a17r2, a17r3, a17r4, a17r5, a17r6, a17r7, a17r8, a17r9]
  · exact Cl.fin rfl ⟨by rw [pmin, if_neg hg1], rfl⟩
  have hv := pvalid_one.1 hg1
  simp only [preOk, ivIn, Bool.and_eq_true, decide_eq_true_eq] at hv
  have hbm := brMin_bd hv.2 (by omega)
  rw [show pmin p = p.to - p.fr - brMin p.br from by rw [pmin, if_pos hg1]]
  rw [wrap_i64 (by omega) (by omega)]
  refine avc_loop (fun env rows => ∃ (k : Nat) (e m : Int), k ≤ p.br.length ∧ p.fr ≤ e ∧ e ≤ p.to ∧ brOk e p.to (p.br.drop k) = true ∧ m - brMin (p.br.drop k) = p.to - p.fr - brMin p.br ∧ env = [(3, .int .i64 m), (18, .pure 2 (els p.br)), (19, .int .i64 p.br.length), (20, .int .i64 k)] ∧ rows = [])
    (fun env _ => match slot env 20 with | .int _ j => (p.br.length - j).toNat | _ => 0) ?_ ?_
  · (refine Cl.tr [] [] rfl rfl (by simp only [go_sem, Nat.reduceAdd, Nat.reduceSub, Nat.reduceMul, Nat.reduceEqDiff, Nat.reduceLT, Nat.reduceLeDiff, Nat.reduceBEq, reduceIte, reduceCtorEq, Int.reduceToNat, Int.reduceLE, Int.reduceLT, Int.reduceBEq, Int.reduceBNe] <;> rfl) ?_; simp only [go_sem, Nat.reduceAdd, Nat.reduceSub, Nat.reduceMul, Nat.reduceEqDiff, Nat.reduceLT, Nat.reduceLeDiff, Nat.reduceBEq, reduceIte, reduceCtorEq, Int.reduceToNat, Int.reduceLE, Int.reduceLT, Int.reduceBEq, Int.reduceBNe])
    exact Cl.here ⟨0, p.fr, _, by omega, by omega, by omega, by simp [hv.2], by simp, rfl, rfl⟩
  · rintro env rows ⟨k, e, m, hk, he0, he1, hbo, hm, rfl, rfl⟩
    simp only [go_sem, Nat.reduceAdd, Nat.reduceSub, Nat.reduceMul, Nat.reduceEqDiff, Nat.reduceLT, Nat.reduceLeDiff, Nat.reduceBEq, reduceIte, reduceCtorEq, Int.reduceToNat, Int.reduceLE, Int.reduceLT, Int.reduceBEq, Int.reduceBNe, a17, a17r0, a17r1, a17r2, a17r3, a17r4, a17r5, a17r6, a17r7, a17r8, a17r9]
    refine condC_intro ?_ ?_ <;> intro hg3 <;> simp only [decide_eq_true_eq, decide_eq_false_iff_not, beq_iff_eq, beq_eq_false_iff_ne, bne_iff_ne, bne_eq_false_iff_eq, Bool.not_eq_true', Bool.not_eq_false', Int.not_lt, Int.not_le, ne_eq, Bool.and_eq_true, Bool.or_eq_true, Bool.or_eq_false_iff, Bool.and_eq_false_iff] at hg3 <;> simp only [go_sem, Nat.reduceAdd, Nat.reduceSub, Nat.reduceMul, Nat.reduceEqDiff, Nat.reduceLT, Nat.reduceLeDiff, Nat.reduceBEq, reduceIte, reduceCtorEq, Int.reduceToNat, Int.reduceLE, Int.reduceLT, Int.reduceBEq, Int.reduceBNe, a17, a17r0, a17r1, a17r2, a17r3, a17r4, a17r5, a17r6, a17r7, a17r8, a17r9]
    · have hlt2 : k < p.br.length := by omega
      have hbd := brMin_bd hbo he1
      rw [drop_cons hlt2, brOk] at hbo
      rw [brMin_drop hlt2] at hm hbd
      simp only [Bool.and_eq_true, ivIn, decide_eq_true_eq] at hbo
      refine ⟨by omega, by omega, ?_⟩
      try simp only [Int.toNat_natCast]
      rw [els_getD hlt2, cel_iv]
      generalize p.br[k] = b at hbo hm hbd ⊢
      simp only [go_sem, Nat.reduceAdd, Nat.reduceSub, Nat.reduceMul, Nat.reduceEqDiff, Nat.reduceLT, Nat.reduceLeDiff, Nat.reduceBEq, reduceIte, reduceCtorEq, Int.reduceToNat, Int.reduceLE, Int.reduceLT, Int.reduceBEq, Int.reduceBNe, a17, a17r0, a17r1, a17r2, a17r3, a17r4, a17r5, a17r6, a17r7, a17r8, a17r9]
      have hbd2 := brMin_bd hbo.2 (by omega)
      have hw : IntKind.i64.wrap ((k : Int) + 1) = ((k + 1 : Nat) : Int) := by rw [wrap_i64 (by omega) (by omega)]; omega
      rw [hw, wrap_i64 (x := b.to - b.fr) (by omega) (by omega), wrap_i64 (by omega) (by omega)]
      (refine Cl.tr [] [] rfl rfl (by simp only [go_sem, Nat.reduceAdd, Nat.reduceSub, Nat.reduceMul, Nat.reduceEqDiff, Nat.reduceLT, Nat.reduceLeDiff, Nat.reduceBEq, reduceIte, reduceCtorEq, Int.reduceToNat, Int.reduceLE, Int.reduceLT, Int.reduceBEq, Int.reduceBNe] <;> rfl) ?_; simp only [go_sem, Nat.reduceAdd, Nat.reduceSub, Nat.reduceMul, Nat.reduceEqDiff, Nat.reduceLT, Nat.reduceLeDiff, Nat.reduceBEq, reduceIte, reduceCtorEq, Int.reduceToNat, Int.reduceLE, Int.reduceLT, Int.reduceBEq, Int.reduceBNe])
      refine Cl.here ⟨⟨k + 1, b.to, _, by omega, by omega, by omega, hbo.2, by omega, rfl, rfl⟩, ?_⟩
      simp only [go_sem, Nat.reduceAdd, Nat.reduceSub, Nat.reduceMul, Nat.reduceEqDiff, Nat.reduceLT, Nat.reduceLeDiff, Nat.reduceBEq, reduceIte, reduceCtorEq, Int.reduceToNat, Int.reduceLE, Int.reduceLT, Int.reduceBEq, Int.reduceBNe]
      omega
    · have hkk : k = p.br.length := by omega
      rw [hkk, List.drop_length, brMin] at hm
      exact Cl.fin rfl ⟨by rw [show p.to - p.fr - brMin p.br = m from by omega], rfl⟩

end Go.Proofs.Ytjacobmkfkmdiaa
