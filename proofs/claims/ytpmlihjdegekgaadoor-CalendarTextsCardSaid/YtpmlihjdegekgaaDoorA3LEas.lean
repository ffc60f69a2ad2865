/- CalendarEaster: the walk. -/
import Derived.Test.YtpmlihjdegekgaaDoorA3Sane
set_option linter.unusedSimpArgs false
set_option linter.unusedVariables false
set_option linter.unusedSectionVars false
namespace Go.Proofs.YtpmlihjdegekgaaDoor
open Go Go.Abs
set_option linter.unusedSimpArgs false

theorem mod_ok (v n : Int) (hn : 0 < n) (hn' : n ≤ 9223372036854775807) : AFn Tryd.prog 12 [.int .i64 v, .int .i64 n] [] (fun r rows => r = .int .i64 (mod v n) ∧ rows = []) := by
  refine afn Tryd.func12 a12_ok (by simp [a12]) ?_
  simp only [go_sem, Nat.reduceAdd, Nat.reduceSub, Nat.reduceMul, Nat.reduceEqDiff, Nat.reduceLT, Nat.reduceLeDiff, Nat.reduceBEq, reduceIte, reduceCtorEq, Int.reduceToNat, Int.reduceLE, Int.reduceLT, Int.reduceBEq, Int.reduceBNe, a12, a12r0, a12r1, a12r2, a12r3, a12r4]
  refine ⟨by omega, ?_⟩
  have h1 := Int.tmod_lt_of_pos v hn
  refine condC_intro ?_ ?_ <;> intro hg <;> simp only [go_sem, Nat.reduceAdd, Nat.reduceSub, Nat.reduceMul, Nat.reduceEqDiff, Nat.reduceLT, Nat.reduceLeDiff, Nat.reduceBEq, reduceIte, reduceCtorEq, Int.reduceToNat, Int.reduceLE, Int.reduceLT, Int.reduceBEq, Int.reduceBNe, a12, a12r0, a12r1, a12r2, a12r3, a12r4] <;> refine Cl.fin rfl ⟨?_, rfl⟩ <;> simp only [decide_eq_true_eq, decide_eq_false_iff_not] at hg
  · have h2 : -n < v.tmod n := by
      have := Int.lt_tmod_of_pos v hn
      omega
    rw [wrap_i64 (by omega) (by omega), mod, if_pos hg]
  · rw [mod, if_neg hg]

def easP (y : Int) : Int × Bool := dayP y (eaN y / 31) (eaN y % 31 + 1)
def easChk (y : Int) : Bool := (easP y).2 && wkdP (easP y).1 == 6 && decide ((dayP y 3 22).1 ≤ (easP y).1) && decide ((easP y).1 ≤ (dayP y 4 25).1)
theorem eas_all : (List.range 230).all (fun k => easChk (1970 + k)) = true := by kernel_rfl
theorem eas_ok {y : Int} (h0 : 1970 ≤ y) (h1 : y ≤ 2199) : (easP y).2 = true ∧ wkdP (easP y).1 = 6 ∧ (dayP y 3 22).1 ≤ (easP y).1 ∧ (easP y).1 ≤ (dayP y 4 25).1 := by
  have h := List.all_eq_true.1 eas_all (y - 1970).toNat (List.mem_range.2 (by omega))
  rw [show (1970 : Int) + ((y - 1970).toNat : Nat) = y from by omega] at h
  simpa [easChk, and_assoc] using h

theorem calendarEaster (n : Int) : AFn Tryd.prog 7 [.int .i64 n] [] (fun v _ => v = .bool true) := by
  refine afn Tryd.func7 a7_ok (by simp [a7]) ?_
  simp only [go_sem, Nat.reduceAdd, Nat.reduceSub, Nat.reduceMul, Nat.reduceEqDiff, Nat.reduceLT, Nat.reduceLeDiff, Nat.reduceBEq, reduceIte, reduceCtorEq, Int.reduceToNat, Int.reduceLE, Int.reduceLT, Int.reduceBEq, Int.reduceBNe, a7, a7r0, a7r1, a7r2, a7r3, a7r4, a7r5]
  refine callC_det (mod_ok n 230 (by omega) (by omega)) rfl rfl ?_
  have hmb := mod_bounds (v := n) (n := 230) (by omega)
  generalize mod n 230 = k at hmb ⊢
  simp only [go_sem, Nat.reduceAdd, Nat.reduceSub, Nat.reduceMul, Nat.reduceEqDiff, Nat.reduceLT, Nat.reduceLeDiff, Nat.reduceBEq, reduceIte, reduceCtorEq, Int.reduceToNat, Int.reduceLE, Int.reduceLT, Int.reduceBEq, Int.reduceBNe]
  rw [wrap_i64 (by omega) (by omega)]
  obtain ⟨y, hy⟩ : ∃ y, 1970 + k = y := ⟨_, rfl⟩
  rw [hy]
  obtain ⟨e1, e2, e3, e4⟩ := eas_ok (y := y) (by omega) (by omega)
  have hE := Easter_yes y ⟨by omega, by omega⟩
  rw [show dayP y (eaN y / 31) (eaN y % 31 + 1) = easP y from rfl, e1] at hE
  refine callC_det hE rfl rfl ?_
  generalize (easP y).1 = d at *
  simp only [go_sem, Nat.reduceAdd, Nat.reduceSub, Nat.reduceMul, Nat.reduceEqDiff, Nat.reduceLT, Nat.reduceLeDiff, Nat.reduceBEq, reduceIte, reduceCtorEq, Int.reduceToNat, Int.reduceLE, Int.reduceLT, Int.reduceBEq, Int.reduceBNe]
  refine callC_det (day_ok y 3 22) rfl rfl ?_
  simp only [go_sem, Nat.reduceAdd, Nat.reduceSub, Nat.reduceMul, Nat.reduceEqDiff, Nat.reduceLT, Nat.reduceLeDiff, Nat.reduceBEq, reduceIte, reduceCtorEq, Int.reduceToNat, Int.reduceLE, Int.reduceLT, Int.reduceBEq, Int.reduceBNe]
  refine callC_det (day_ok y 4 25) rfl rfl ?_
  simp only [go_sem, Nat.reduceAdd, Nat.reduceSub, Nat.reduceMul, Nat.reduceEqDiff, Nat.reduceLT, Nat.reduceLeDiff, Nat.reduceBEq, reduceIte, reduceCtorEq, Int.reduceToNat, Int.reduceLE, Int.reduceLT, Int.reduceBEq, Int.reduceBNe]
  refine callC_det (Weekday_ok d) rfl rfl ?_
  rw [e2]
  have d1 : decide ((dayP y 3 22).1 ≤ d) = true := decide_eq_true e3
  have d2 : decide (d ≤ (dayP y 4 25).1) = true := decide_eq_true e4
  simp only [go_sem, Nat.reduceAdd, Nat.reduceSub, Nat.reduceMul, Nat.reduceEqDiff, Nat.reduceLT, Nat.reduceLeDiff, Nat.reduceBEq, reduceIte, reduceCtorEq, Int.reduceToNat, Int.reduceLE, Int.reduceLT, Int.reduceBEq, Int.reduceBNe, d1, d2]
  refine callC_det sane_ok rfl rfl ?_
  simp only [go_sem, Nat.reduceAdd, Nat.reduceSub, Nat.reduceMul, Nat.reduceEqDiff, Nat.reduceLT, Nat.reduceLeDiff, Nat.reduceBEq, reduceIte, reduceCtorEq, Int.reduceToNat, Int.reduceLE, Int.reduceLT, Int.reduceBEq, Int.reduceBNe]
  exact Cl.fin rfl rfl

end Go.Proofs.YtpmlihjdegekgaaDoor
