/- same, stamps. -/
import Derived.Test.YtjacobmkfkmdiaaA2Pres
set_option linter.unusedSimpArgs false
set_option linter.unusedVariables false
set_option linter.unusedSectionVars false
namespace Go.Proofs.Ytjacobmkfkmdiaa
open Go Go.Abs
set_option linter.unusedSimpArgs false

theorem same_ok (ps : List Pre) (hl : ps.length ≤ 9223372036854775806) (hbl : ∀ p ∈ ps, p.br.length ≤ 9223372036854775806) : AFn Try.prog 28 [.pure 3 (els ps), .pure 3 (els ps)] [] (fun v rs => v = .bool true ∧ rs = []) := by
  refine afn Try.func28 a28_ok (by simp [a28]) ?_
  simp only [go_sem, Nat.reduceAdd, Nat.reduceSub, Nat.reduceMul, Nat.reduceEqDiff, Nat.reduceLT, Nat.reduceLeDiff, Nat.reduceBEq, reduceIte, reduceCtorEq, Int.reduceToNat, Int.reduceLE, Int.reduceLT, Int.reduceBEq, Int.reduceBNe, a28, a28r0, a28r1, a28r2, a28r3, a28r4, a28r5, a28r6, a28r7, a28r8, a28r9, a28r10, a28r11, a28r12, a28r13]
  refine condC_intro (fun h => by simp at h) fun _ => ?_
  simp only [go_sem, Nat.reduceAdd, Nat.reduceSub, Nat.reduceMul, Nat.reduceEqDiff, Nat.reduceLT, Nat.reduceLeDiff, Nat.reduceBEq, reduceIte, reduceCtorEq, Int.reduceToNat, Int.reduceLE, Int.reduceLT, Int.reduceBEq, Int.reduceBNe, a28, a28r0, a28r1, a28r2, a28r3, a28r4, a28r5, a28r6, a28r7, a28r8, a28r9, a28r10, a28r11, a28r12, a28r13]
  refine avc_loop (fun env rows => ∃ i : Nat, i ≤ ps.length ∧ env = [(0, .pure 3 (els ps)), (1, .pure 3 (els ps)), (5, .int .i64 i)] ∧ rows = [])
    (fun env _ => match slot env 5 with | .int _ j => (ps.length - j).toNat | _ => 0) ?_ ?_
  · exact Cl.here ⟨0, by omega, rfl, rfl⟩
  · rintro env rows ⟨i, hi, rfl, rfl⟩
    simp only [go_sem, Nat.reduceAdd, Nat.reduceSub, Nat.reduceMul, Nat.reduceEqDiff, Nat.reduceLT, Nat.reduceLeDiff, Nat.reduceBEq, reduceIte, reduceCtorEq, Int.reduceToNat, Int.reduceLE, Int.reduceLT, Int.reduceBEq, Int.reduceBNe, a28, a28r0, a28r1, a28r2, a28r3, a28r4, a28r5, a28r6, a28r7, a28r8, a28r9, a28r10, a28r11, a28r12, a28r13]
    refine condC_intro ?_ ?_ <;> intro hg1 <;> simp only [decide_eq_true_eq, decide_eq_false_iff_not, beq_iff_eq, beq_eq_false_iff_ne, bne_iff_ne, bne_eq_false_iff_eq, Bool.not_eq_true', Bool.not_eq_false', Int.not_lt, Int.not_le, ne_eq, Bool.and_eq_true, Bool.or_eq_true, Bool.or_eq_false_iff, Bool.and_eq_false_iff] at hg1 <;> simp only [go_sem, Nat.reduceAdd, Nat.reduceSub, Nat.reduceMul, Nat.reduceEqDiff, Nat.reduceLT, Nat.reduceLeDiff, Nat.reduceBEq, reduceIte, reduceCtorEq, Int.reduceToNat, Int.reduceLE, Int.reduceLT, Int.reduceBEq, Int.reduceBNe, a28, a28r0, a28r1, a28r2, a28r3, a28r4, a28r5, a28r6, a28r7, a28r8, a28r9, a28r10, a28r11, a28r12, a28r13]
    · have hlt : i < ps.length := by omega
      have hi0 : (0 : Int) ≤ i := by omega
      have hi1 : (i : Int) < ps.length := by omega
      have hget : (els ps).getD i [] = [.int .i64 ps[i].fr, .int .i64 ps[i].to, .pure 2 (els ps[i].br)] := by rw [els_getD hlt, cel_pre]
      have hbp := hbl _ (List.getElem_mem hlt)
      generalize ps[i] = p at hget hbp
      have hw1 : IntKind.i64.wrap ((i : Int) + 1) = ((i + 1 : Nat) : Int) := by rw [wrap_i64 (by omega) (by omega)]; omega
      simp only [go_sem, Nat.reduceAdd, Nat.reduceSub, Nat.reduceMul, Nat.reduceEqDiff, Nat.reduceLT, Nat.reduceLeDiff, Nat.reduceBEq, reduceIte, reduceCtorEq, Int.reduceToNat, Int.reduceLE, Int.reduceLT, Int.reduceBEq, Int.reduceBNe, a28, a28r0, a28r1, a28r2, a28r3, a28r4, a28r5, a28r6, a28r7, a28r8, a28r9, a28r10, a28r11, a28r12, a28r13, hi0, hi1, hget]
      refine condC_intro (fun h => by simp at h) fun _ => ?_
      simp only [go_sem, Nat.reduceAdd, Nat.reduceSub, Nat.reduceMul, Nat.reduceEqDiff, Nat.reduceLT, Nat.reduceLeDiff, Nat.reduceBEq, reduceIte, reduceCtorEq, Int.reduceToNat, Int.reduceLE, Int.reduceLT, Int.reduceBEq, Int.reduceBNe, a28, a28r0, a28r1, a28r2, a28r3, a28r4, a28r5, a28r6, a28r7, a28r8, a28r9, a28r10, a28r11, a28r12, a28r13]
      refine avc_loop (fun env rows => ∃ k : Nat, k ≤ p.br.length ∧ env = [(0, .pure 3 (els ps)), (1, .pure 3 (els ps)), (5, .int .i64 i), (6, .int .i64 k)] ∧ rows = [])
        (fun env _ => match slot env 6 with | .int _ j => (p.br.length - j).toNat | _ => 0) ?_ ?_
      · exact Cl.here ⟨0, by omega, rfl, rfl⟩
      · rintro env rows ⟨k, hk, rfl, rfl⟩
        simp only [go_sem, Nat.reduceAdd, Nat.reduceSub, Nat.reduceMul, Nat.reduceEqDiff, Nat.reduceLT, Nat.reduceLeDiff, Nat.reduceBEq, reduceIte, reduceCtorEq, Int.reduceToNat, Int.reduceLE, Int.reduceLT, Int.reduceBEq, Int.reduceBNe, a28, a28r0, a28r1, a28r2, a28r3, a28r4, a28r5, a28r6, a28r7, a28r8, a28r9, a28r10, a28r11, a28r12, a28r13, hi0, hi1, hget]
        refine condC_intro ?_ ?_ <;> intro hg2 <;> simp only [decide_eq_true_eq, decide_eq_false_iff_not, beq_iff_eq, beq_eq_false_iff_ne, bne_iff_ne, bne_eq_false_iff_eq, Bool.not_eq_true', Bool.not_eq_false', Int.not_lt, Int.not_le, ne_eq, Bool.and_eq_true, Bool.or_eq_true, Bool.or_eq_false_iff, Bool.and_eq_false_iff] at hg2 <;> simp only [go_sem, Nat.reduceAdd, Nat.reduceSub, Nat.reduceMul, Nat.reduceEqDiff, Nat.reduceLT, Nat.reduceLeDiff, Nat.reduceBEq, reduceIte, reduceCtorEq, Int.reduceToNat, Int.reduceLE, Int.reduceLT, Int.reduceBEq, Int.reduceBNe, a28, a28r0, a28r1, a28r2, a28r3, a28r4, a28r5, a28r6, a28r7, a28r8, a28r9, a28r10, a28r11, a28r12, a28r13, hi0, hi1, hget]
        · have hlt2 : k < p.br.length := by omega
          have hk0 : (0 : Int) ≤ k := by omega
          have hk1 : (k : Int) < p.br.length := by omega
          have hget2 : (els p.br).getD k [] = [.int .i64 p.br[k].fr, .int .i64 p.br[k].to] := by rw [els_getD hlt2, cel_iv]
          generalize p.br[k] = b at hget2
          have hw2 : IntKind.i64.wrap ((k : Int) + 1) = ((k + 1 : Nat) : Int) := by rw [wrap_i64 (by omega) (by omega)]; omega
          simp only [go_sem, Nat.reduceAdd, Nat.reduceSub, Nat.reduceMul, Nat.reduceEqDiff, Nat.reduceLT, Nat.reduceLeDiff, Nat.reduceBEq, reduceIte, reduceCtorEq, Int.reduceToNat, Int.reduceLE, Int.reduceLT, Int.reduceBEq, Int.reduceBNe, a28, a28r0, a28r1, a28r2, a28r3, a28r4, a28r5, a28r6, a28r7, a28r8, a28r9, a28r10, a28r11, a28r12, a28r13, hk0, hk1, hget2, hw2]
          try refine condC_intro (fun h => by simp at h) fun _ => ?_
          try simp only [go_sem, Nat.reduceAdd, Nat.reduceSub, Nat.reduceMul, Nat.reduceEqDiff, Nat.reduceLT, Nat.reduceLeDiff, Nat.reduceBEq, reduceIte, reduceCtorEq, Int.reduceToNat, Int.reduceLE, Int.reduceLT, Int.reduceBEq, Int.reduceBNe, a28, a28r0, a28r1, a28r2, a28r3, a28r4, a28r5, a28r6, a28r7, a28r8, a28r9, a28r10, a28r11, a28r12, a28r13, hw2]
          refine Cl.here ⟨⟨k + 1, by omega, rfl, rfl⟩, ?_⟩
          simp only [go_sem, Nat.reduceAdd, Nat.reduceSub, Nat.reduceMul, Nat.reduceEqDiff, Nat.reduceLT, Nat.reduceLeDiff, Nat.reduceBEq, reduceIte, reduceCtorEq, Int.reduceToNat, Int.reduceLE, Int.reduceLT, Int.reduceBEq, Int.reduceBNe]
          omega
        · rw [hw1]
          refine Cl.here ⟨⟨i + 1, by omega, rfl, rfl⟩, ?_⟩
          simp only [go_sem, Nat.reduceAdd, Nat.reduceSub, Nat.reduceMul, Nat.reduceEqDiff, Nat.reduceLT, Nat.reduceLeDiff, Nat.reduceBEq, reduceIte, reduceCtorEq, Int.reduceToNat, Int.reduceLE, Int.reduceLT, Int.reduceBEq, Int.reduceBNe]
          omega
    · exact Cl.fin rfl ⟨rfl, rfl⟩

end Go.Proofs.Ytjacobmkfkmdiaa
