/- The examples of the chapter. -/
import Derived.Test.YtpmlihjdegekgaaDoorA3Hol
set_option linter.unusedSimpArgs false
set_option linter.unusedVariables false
set_option linter.unusedSectionVars false
namespace Go.Proofs.YtpmlihjdegekgaaDoor
open Go Go.Abs
set_option linter.unusedSimpArgs false

theorem add_ex : AFn Tryd.prog 28 [.int .i64 20849, .int .i64 1] [] (fun v rs => v = .tup [.int .i64 20877, .bool true] ∧ rs = []) := by
  have h := AddMonths_ok 20849 1
  rw [if_pos (by decide), show addP 20849 1 = 20877 from by decide] at h
  exact h
theorem week_ex : AFn Tryd.prog 26 [.int .i64 20773] [] (fun v rs => v = .tup [.int .i64 2026, .int .i64 47, .bool true] ∧ rs = []) := by
  have h := Week_ok 20773
  rw [if_pos (by decide), show yearP (thuP 20773) = 2026 from by decide, show (thuP 20773 - beginP 2026) / 7 + 1 = 47 from by decide] at h
  exact h
theorem easter_ex : AFn Tryd.prog 38 [.int .i64 2026] [] (fun v rs => v = .tup [.int .i64 20548, .bool true] ∧ rs = []) := by
  have h := Easter_yes 2026 (by decide)
  rw [show dayP 2026 (eaN 2026 / 31) (eaN 2026 % 31 + 1) = (20548, true) from by decide] at h
  exact h
theorem day_ex : AFn Tryd.prog 22 [.int .i64 2026, .int .i64 11, .int .i64 16] [] (fun v rs => v = .tup [.int .i64 20773, .bool true] ∧ rs = []) := by
  have h := day_ok 2026 11 16
  rw [show dayP 2026 11 16 = (20773, true) from by decide] at h
  exact h

theorem sane_ok : AFn Tryd.prog 17 [] [] (fun v rs => v = .bool true ∧ rs = []) := by
  refine afn Tryd.func17 a17_ok (by simp [a17]) ?_
  simp only [go_sem, Nat.reduceAdd, Nat.reduceSub, Nat.reduceMul, Nat.reduceEqDiff, Nat.reduceLT, Nat.reduceLeDiff, Nat.reduceBEq, reduceIte, reduceCtorEq, Int.reduceToNat, Int.reduceLE, Int.reduceLT, Int.reduceBEq, Int.reduceBNe, a17, a17r0, a17r1, a17r2, a17r3, a17r4, a17r5, a17r6]
  refine callC_det day_ex rfl rfl ?_
  simp only [go_sem, Nat.reduceAdd, Nat.reduceSub, Nat.reduceMul, Nat.reduceEqDiff, Nat.reduceLT, Nat.reduceLeDiff, Nat.reduceBEq, reduceIte, reduceCtorEq, Int.reduceToNat, Int.reduceLE, Int.reduceLT, Int.reduceBEq, Int.reduceBNe]
  refine callC_det add_ex rfl rfl ?_
  simp only [go_sem, Nat.reduceAdd, Nat.reduceSub, Nat.reduceMul, Nat.reduceEqDiff, Nat.reduceLT, Nat.reduceLeDiff, Nat.reduceBEq, reduceIte, reduceCtorEq, Int.reduceToNat, Int.reduceLE, Int.reduceLT, Int.reduceBEq, Int.reduceBNe]
  refine callC_det week_ex rfl rfl ?_
  simp only [go_sem, Nat.reduceAdd, Nat.reduceSub, Nat.reduceMul, Nat.reduceEqDiff, Nat.reduceLT, Nat.reduceLeDiff, Nat.reduceBEq, reduceIte, reduceCtorEq, Int.reduceToNat, Int.reduceLE, Int.reduceLT, Int.reduceBEq, Int.reduceBNe]
  refine callC_det easter_ex rfl rfl ?_
  simp only [go_sem, Nat.reduceAdd, Nat.reduceSub, Nat.reduceMul, Nat.reduceEqDiff, Nat.reduceLT, Nat.reduceLeDiff, Nat.reduceBEq, reduceIte, reduceCtorEq, Int.reduceToNat, Int.reduceLE, Int.reduceLT, Int.reduceBEq, Int.reduceBNe]
  refine callC_of [0] [] (by decide) (srows := [.live 25 6 (els [hEx])]) rfl (by simp only [go_sem, Nat.reduceAdd, Nat.reduceSub, Nat.reduceMul, Nat.reduceEqDiff, Nat.reduceLT, Nat.reduceLeDiff, Nat.reduceBEq, reduceIte, reduceCtorEq, Int.reduceToNat, Int.reduceLE, Int.reduceLT, Int.reduceBEq, Int.reduceBNe] <;> rfl) HolidaysOwn_ex ?_
  rintro _ _ ⟨rfl, rfl⟩
  refine ⟨.inl rfl, ?_⟩
  simp only [go_sem, Nat.reduceAdd, Nat.reduceSub, Nat.reduceMul, Nat.reduceEqDiff, Nat.reduceLT, Nat.reduceLeDiff, Nat.reduceBEq, reduceIte, reduceCtorEq, Int.reduceToNat, Int.reduceLE, Int.reduceLT, Int.reduceBEq, Int.reduceBNe]
  refine callC_det (Format_ok 20877 (by decide)) rfl rfl ?_
  rw [show fmtP 20877 = ⟨#[50, 48, 50, 55, 45, 48, 50, 45, 50, 56]⟩ from by kernel_rfl]
  simp only [go_sem, Nat.reduceAdd, Nat.reduceSub, Nat.reduceMul, Nat.reduceEqDiff, Nat.reduceLT, Nat.reduceLeDiff, Nat.reduceBEq, reduceIte, reduceCtorEq, Int.reduceToNat, Int.reduceLE, Int.reduceLT, Int.reduceBEq, Int.reduceBNe, beq_self_eq_true]
  refine callC_det (Format_ok 20548 (by decide)) rfl rfl ?_
  rw [show fmtP 20548 = ⟨#[50, 48, 50, 54, 45, 48, 52, 45, 48, 53]⟩ from by kernel_rfl]
  simp only [go_sem, Nat.reduceAdd, Nat.reduceSub, Nat.reduceMul, Nat.reduceEqDiff, Nat.reduceLT, Nat.reduceLeDiff, Nat.reduceBEq, reduceIte, reduceCtorEq, Int.reduceToNat, Int.reduceLE, Int.reduceLT, Int.reduceBEq, Int.reduceBNe, beq_self_eq_true, show (numsE .i64 [20783]).getD 0 [] = [.int .i64 20783] from rfl]
  refine callC_det (Weekday_ok 20773) rfl rfl ?_
  rw [show wkdP 20773 = 0 from by decide]
  simp only [go_sem, Nat.reduceAdd, Nat.reduceSub, Nat.reduceMul, Nat.reduceEqDiff, Nat.reduceLT, Nat.reduceLeDiff, Nat.reduceBEq, reduceIte, reduceCtorEq, Int.reduceToNat, Int.reduceLE, Int.reduceLT, Int.reduceBEq, Int.reduceBNe]
  exact Cl.fin rfl ⟨rfl, rfl⟩

end Go.Proofs.YtpmlihjdegekgaaDoor
