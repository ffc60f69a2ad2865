/- CalendarInverse: the walk. -/
import Derived.Test.YtpmlihjdegekgaaDoorA3Pl
set_option linter.unusedSimpArgs false
set_option linter.unusedVariables false
set_option linter.unusedSectionVars false
namespace Go.Proofs.YtpmlihjdegekgaaDoor
open Go Go.Abs
set_option linter.unusedSimpArgs false

theorem calendarInverse (n : Int) : AFn Tryd.prog 6 [.int .i64 n] [] (fun v _ => v = .bool true) := by
  refine afn Tryd.func6 a6_ok (by simp [a6]) ?_
  simp only [go_sem, Nat.reduceAdd, Nat.reduceSub, Nat.reduceMul, Nat.reduceEqDiff, Nat.reduceLT, Nat.reduceLeDiff, Nat.reduceBEq, reduceIte, reduceCtorEq, Int.reduceToNat, Int.reduceLE, Int.reduceLT, Int.reduceBEq, Int.reduceBNe, a6, a6r0, a6r1, a6r2, a6r3, a6r4, a6r5, a6r6, a6r7, a6r8, a6r9]
  refine callC_det (mod_ok n 83999 (by omega) (by omega)) rfl rfl ?_
  have hmb := mod_bounds (v := n) (n := 83999) (by omega)
  generalize mod n 83999 = d at hmb ⊢
  have hd : okD d := ⟨by omega, by omega⟩
  have hA := date_okc d
  rw [if_pos hd] at hA
  have hD := day_ok (yearP d) (dateM d).1 ((dateM d).2 + 1)
  rw [day_date hd] at hD
  simp only [go_sem, Nat.reduceAdd, Nat.reduceSub, Nat.reduceMul, Nat.reduceEqDiff, Nat.reduceLT, Nat.reduceLeDiff, Nat.reduceBEq, reduceIte, reduceCtorEq, Int.reduceToNat, Int.reduceLE, Int.reduceLT, Int.reduceBEq, Int.reduceBNe]
  refine callC_det hA rfl rfl ?_
  generalize yearP d = y at *
  generalize (dateM d).1 = m at *
  generalize (dateM d).2 + 1 = x at *
  simp only [go_sem, Nat.reduceAdd, Nat.reduceSub, Nat.reduceMul, Nat.reduceEqDiff, Nat.reduceLT, Nat.reduceLeDiff, Nat.reduceBEq, reduceIte, reduceCtorEq, Int.reduceToNat, Int.reduceLE, Int.reduceLT, Int.reduceBEq, Int.reduceBNe]
  refine callC_det hD rfl rfl ?_
  have w7 : wkdP (d + 7) = wkdP d := by rw [wkdP, wkdP, if_pos hd, if_pos ⟨by omega, by omega⟩, wdP, wdP]; omega
  have w1 : ¬ wkdP (d + 1) = wkdP d := by rw [wkdP, wkdP, if_pos hd, if_pos ⟨by omega, by omega⟩, wdP, wdP]; omega
  have b1 : (wkdP (d + 1) == wkdP d) = false := beq_eq_false_iff_ne.2 w1
  have hw7 : IntKind.i64.wrap (d + 7) = d + 7 := wrap_i64 (by omega) (by omega)
  have hw1 : IntKind.i64.wrap (d + 1) = d + 1 := wrap_i64 (by omega) (by omega)
  simp only [go_sem, Nat.reduceAdd, Nat.reduceSub, Nat.reduceMul, Nat.reduceEqDiff, Nat.reduceLT, Nat.reduceLeDiff, Nat.reduceBEq, reduceIte, reduceCtorEq, Int.reduceToNat, Int.reduceLE, Int.reduceLT, Int.reduceBEq, Int.reduceBNe, bne_self_eq_false, hw7]
  refine callC_det (Weekday_ok (d + 7)) rfl rfl ?_
  rw [w7]
  simp only [go_sem, Nat.reduceAdd, Nat.reduceSub, Nat.reduceMul, Nat.reduceEqDiff, Nat.reduceLT, Nat.reduceLeDiff, Nat.reduceBEq, reduceIte, reduceCtorEq, Int.reduceToNat, Int.reduceLE, Int.reduceLT, Int.reduceBEq, Int.reduceBNe]
  refine callC_det (Weekday_ok d) rfl rfl ?_
  simp only [go_sem, Nat.reduceAdd, Nat.reduceSub, Nat.reduceMul, Nat.reduceEqDiff, Nat.reduceLT, Nat.reduceLeDiff, Nat.reduceBEq, reduceIte, reduceCtorEq, Int.reduceToNat, Int.reduceLE, Int.reduceLT, Int.reduceBEq, Int.reduceBNe, bne_self_eq_false, hw1]
  refine callC_det (Weekday_ok (d + 1)) rfl rfl ?_
  simp only [go_sem, Nat.reduceAdd, Nat.reduceSub, Nat.reduceMul, Nat.reduceEqDiff, Nat.reduceLT, Nat.reduceLeDiff, Nat.reduceBEq, reduceIte, reduceCtorEq, Int.reduceToNat, Int.reduceLE, Int.reduceLT, Int.reduceBEq, Int.reduceBNe]
  refine callC_det (Weekday_ok d) rfl rfl ?_
  simp only [go_sem, Nat.reduceAdd, Nat.reduceSub, Nat.reduceMul, Nat.reduceEqDiff, Nat.reduceLT, Nat.reduceLeDiff, Nat.reduceBEq, reduceIte, reduceCtorEq, Int.reduceToNat, Int.reduceLE, Int.reduceLT, Int.reduceBEq, Int.reduceBNe, b1]
  refine callC_det (mod_ok n 2759 (by omega) (by omega)) rfl rfl ?_
  have hkb := mod_bounds (v := n) (n := 2759) (by omega)
  generalize mod n 2759 = k at hkb ⊢
  have hk : okM k := ⟨by omega, by omega⟩
  have hk1 : okM (k + 1) := ⟨by omega, by omega⟩
  have hF := First_ok k
  rw [if_pos hk] at hF
  have hF1 := First_ok (k + 1)
  rw [if_pos hk1] at hF1
  have hlen := lengthP_pos hk
  have hlen1 := lengthP_pos hk1
  have hnext := first_next hk
  obtain ⟨⟨o1, o2⟩, m1, _⟩ := month_day hk (r := lengthP k - 1) (by omega) (by omega)
  obtain ⟨⟨o3, o4⟩, m2, _⟩ := month_day hk1 (r := 0) (by omega) (by omega)
  obtain ⟨⟨o5, o6⟩, _, _⟩ := month_day hk (r := 0) (by omega) (by omega)
  rw [Int.add_zero] at m2 o3 o4 o5 o6
  rw [show firstP k + (lengthP k - 1) = firstP (k + 1) - 1 by omega] at m1
  have hwk : IntKind.i64.wrap (k + 1) = k + 1 := wrap_i64 (by omega) (by omega)
  simp only [go_sem, Nat.reduceAdd, Nat.reduceSub, Nat.reduceMul, Nat.reduceEqDiff, Nat.reduceLT, Nat.reduceLeDiff, Nat.reduceBEq, reduceIte, reduceCtorEq, Int.reduceToNat, Int.reduceLE, Int.reduceLT, Int.reduceBEq, Int.reduceBNe]
  refine callC_det hF rfl rfl ?_
  simp only [go_sem, Nat.reduceAdd, Nat.reduceSub, Nat.reduceMul, Nat.reduceEqDiff, Nat.reduceLT, Nat.reduceLeDiff, Nat.reduceBEq, reduceIte, reduceCtorEq, Int.reduceToNat, Int.reduceLE, Int.reduceLT, Int.reduceBEq, Int.reduceBNe, hwk]
  refine callC_det hF1 rfl rfl ?_
  simp only [go_sem, Nat.reduceAdd, Nat.reduceSub, Nat.reduceMul, Nat.reduceEqDiff, Nat.reduceLT, Nat.reduceLeDiff, Nat.reduceBEq, reduceIte, reduceCtorEq, Int.reduceToNat, Int.reduceLE, Int.reduceLT, Int.reduceBEq, Int.reduceBNe]
  refine callC_det (Length_ok k) rfl rfl ?_
  have ha : IntKind.i64.wrap (firstP k + lengthP k) = firstP (k + 1) := by rw [wrap_i64 (by omega) (by omega), hnext]
  have hb : IntKind.i64.wrap (firstP (k + 1) - 1) = firstP (k + 1) - 1 := wrap_i64 (by omega) (by omega)
  simp only [go_sem, Nat.reduceAdd, Nat.reduceSub, Nat.reduceMul, Nat.reduceEqDiff, Nat.reduceLT, Nat.reduceLeDiff, Nat.reduceBEq, reduceIte, reduceCtorEq, Int.reduceToNat, Int.reduceLE, Int.reduceLT, Int.reduceBEq, Int.reduceBNe, ha, hb, beq_self_eq_true]
  refine callC_det (Month_ok (firstP (k + 1) - 1)) rfl rfl ?_
  rw [m1]
  simp only [go_sem, Nat.reduceAdd, Nat.reduceSub, Nat.reduceMul, Nat.reduceEqDiff, Nat.reduceLT, Nat.reduceLeDiff, Nat.reduceBEq, reduceIte, reduceCtorEq, Int.reduceToNat, Int.reduceLE, Int.reduceLT, Int.reduceBEq, Int.reduceBNe, beq_self_eq_true]
  refine callC_det (Month_ok (firstP (k + 1))) rfl rfl ?_
  rw [m2]
  simp only [go_sem, Nat.reduceAdd, Nat.reduceSub, Nat.reduceMul, Nat.reduceEqDiff, Nat.reduceLT, Nat.reduceLeDiff, Nat.reduceBEq, reduceIte, reduceCtorEq, Int.reduceToNat, Int.reduceLE, Int.reduceLT, Int.reduceBEq, Int.reduceBNe, hwk, beq_self_eq_true]
  refine callC_det sane_ok rfl rfl ?_
  simp only [go_sem, Nat.reduceAdd, Nat.reduceSub, Nat.reduceMul, Nat.reduceEqDiff, Nat.reduceLT, Nat.reduceLeDiff, Nat.reduceBEq, reduceIte, reduceCtorEq, Int.reduceToNat, Int.reduceLE, Int.reduceLT, Int.reduceBEq, Int.reduceBNe]
  exact Cl.fin rfl rfl

end Go.Proofs.YtpmlihjdegekgaaDoor
