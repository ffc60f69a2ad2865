/- Made instants. -/
import Derived.Test.YtefemdpicjgkeaaDoorQ8Mrk
set_option linter.unusedSimpArgs false
set_option linter.unusedVariables false
set_option linter.unusedSectionVars false
namespace Go.Proofs.YtefemdpicjgkeaaDoor
open Go Go.Abs
set_option linter.unusedSimpArgs false
set_option linter.unusedVariables false

theorem near_ok (l : List Int) (hl : TapeOk l) : TapeFn Tryd.prog 69 19 [] l (fun v => ∃ x : Int, v = .int .i64 x ∧ 29453760 ≤ x ∧ x ≤ 29468161) := by
  intro at_ h0 h1
  refine afn Tryd.func19 a19_ok (by simp [a19]) ?_
  simp only [go_sem,Nat.reduceAdd,Nat.reduceSub,Nat.reduceMul,Nat.reduceEqDiff,Nat.reduceLT,Nat.reduceLeDiff,Nat.reduceBEq,reduceIte,reduceCtorEq,Int.reduceToNat,Int.reduceLE,Int.reduceLT,Int.reduceBEq,Int.reduceBNe,a19,a19r0,a19r1]
  (refine callC_tape (next_ok l hl 10 (by omega)) rfl rfl (by omega) (by omega) ?_; rintro _ at_ _ _ ⟨ x1,rfl,_,_⟩; simp only [go_sem,Nat.reduceAdd,Nat.reduceSub,Nat.reduceMul,Nat.reduceEqDiff,Nat.reduceLT,Nat.reduceLeDiff,Nat.reduceBEq,reduceIte,reduceCtorEq,Int.reduceToNat,Int.reduceLE,Int.reduceLT,Int.reduceBEq,Int.reduceBNe])
  rw [wrap_i64 (x := x1 * 1440) (by omega) (by omega), wrap_i64 (x := 29453760 + x1 * 1440) (by omega) (by omega)]
  (refine callC_tape (next_ok l hl 97 (by omega)) rfl rfl (by omega) (by omega) ?_; rintro _ at_ _ _ ⟨ x2,rfl,_,_⟩; simp only [go_sem,Nat.reduceAdd,Nat.reduceSub,Nat.reduceMul,Nat.reduceEqDiff,Nat.reduceLT,Nat.reduceLeDiff,Nat.reduceBEq,reduceIte,reduceCtorEq,Int.reduceToNat,Int.reduceLE,Int.reduceLT,Int.reduceBEq,Int.reduceBNe])
  rw [wrap_i64 (x := x2 * 15) (by omega) (by omega), wrap_i64 (x := 29453760 + x1 * 1440 + x2 * 15) (by omega) (by omega)]
  (refine callC_tape (next_ok l hl 8 (by omega)) rfl rfl (by omega) (by omega) ?_; rintro _ at_ _ _ ⟨ x3,rfl,_,_⟩; simp only [go_sem,Nat.reduceAdd,Nat.reduceSub,Nat.reduceMul,Nat.reduceEqDiff,Nat.reduceLT,Nat.reduceLeDiff,Nat.reduceBEq,reduceIte,reduceCtorEq,Int.reduceToNat,Int.reduceLE,Int.reduceLT,Int.reduceBEq,Int.reduceBNe])
  refine ⟨by omega, ?_⟩
  rw [Int.tdiv_eq_ediv_of_nonneg (by omega), wrap_i64 (x := x3 / 6) (by omega) (by omega), wrap_i64 (x := 29453760 + x1 * 1440 + x2 * 15 + x3 / 6) (by omega) (by omega)]
  exact Cl.tape rfl (by omega) (by omega) ⟨_, rfl, by omega, by omega⟩

end Go.Proofs.YtefemdpicjgkeaaDoor
