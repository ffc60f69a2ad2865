/- Inbox: the examples of the chapter. -/
import Derived.Test.YtodbafiepdcfbaaA5REff
set_option linter.unusedSimpArgs false
set_option linter.unusedVariables false
set_option linter.unusedSectionVars false
namespace Go.Proofs.Ytodbafiepdcfbaa
open Go Go.Abs
set_option linter.unusedSimpArgs false
set_option linter.unusedVariables false

def exI : Ev := ⟨1, 5, 1, 480, 1, 0, 0⟩
def exA : Ev := ⟨1, 6, 1, 470, 6, 1, 5⟩
def exB : Ev := ⟨2, 1, 1, 475, 6, 1, 5⟩
def exO : Ev := ⟨1, 5, 1, 481, 1, 0, 0⟩
theorem exEff : AFn Try.prog 37 [.pure 7 (els [exB, exA, exI, exO]), .int .i64 1] [] (fun v rs => v = .tup [.own 0 1 0 1, .int .i64 0] ∧ rs = [.live 77 4 (els [(⟨475, 1, 1, 5⟩ : Stamp)])]) := by
  have h0 : chk [exB, exA, exI, exO] = 0 := by kernel_rfl
  have h1 : stamps (effF [exB, exA, exI, exO] 1) = [⟨475, 1, 1, 5⟩] := by kernel_rfl
  refine (effective_ok [exB, exA, exI, exO] (by decide) 1).mono ?_
  rintro v rs (⟨h, _⟩ | ⟨_, S, hp, _, rfl, rfl⟩)
  · exact (h h0).elim
  · rw [h1] at hp
    have hS := List.perm_singleton.1 hp
    subst hS
    exact ⟨rfl, rfl⟩
theorem exConf : AFn Try.prog 55 [.pure 7 (els [exO, exI])] [] (fun v rs => v = .tup [.own 0 1 0 1, .int .i64 0] ∧ rs = [.live 62 2 (els [(⟨1, 5⟩ : Ky)])]) := by
  have h0 : chk [exO, exI] = 0 := by kernel_rfl
  have h1 : dd (kadj (uni [exO, exI])) = [⟨1, 5⟩] := by kernel_rfl
  refine (conflicts_ok [exO, exI] (by decide)).mono ?_
  rintro v rs (⟨h, _⟩ | ⟨_, rfl, rfl⟩)
  · exact (h h0).elim
  · rw [h1]
    exact ⟨rfl, rfl⟩
theorem exMrg : AFn Try.prog 35 [.pure 7 (els [exB, exI]), .pure 7 (els [exI])] [] (fun v rs => v = .tup [.own 0 2 0 2, .int .i64 0] ∧ rs = [.live 64 7 (els [exI, exB])]) := by
  have h0 : mrgE [exB, exI] [exI] = 0 := by kernel_rfl
  have h1 : uni ([exB, exI] ++ [exI]) = [exI, exB] := by kernel_rfl
  refine (merge_ok [exB, exI] [exI] (by decide) (by decide)).mono ?_
  rintro v rs (⟨h, _⟩ | ⟨_, rfl, rfl⟩)
  · exact (h h0).elim
  · rw [h1]
    exact ⟨rfl, rfl⟩
theorem els_cons {α : Type} [Cel α] (x : α) (l : List α) : els (x :: l) = Cel.c x :: els l := rfl

set_option maxRecDepth 4000 in
theorem sane8_ok : AFn Try.prog 32 [] [] (fun v rs => v = .bool true ∧ rs = []) := by
  refine afn Try.func32 a32_ok (by simp [a32]) ?_
  simp only [go_sem, Nat.reduceAdd, Nat.reduceSub, Nat.reduceMul, Nat.reduceEqDiff, Nat.reduceLT, Nat.reduceLeDiff, Nat.reduceBEq, reduceIte, reduceCtorEq, Int.reduceToNat, Int.reduceLE, Int.reduceLT, Int.reduceBEq, Int.reduceBNe, a32, a32r0, a32r1, a32r2, a32r3, a32r4, a32r5, a32r6, a32r7, a32r8, a32r9]
  refine callC_of [] [4] (by decide) rfl (by simp only [go_sem, Nat.reduceAdd, Nat.reduceSub, Nat.reduceMul, Nat.reduceEqDiff, Nat.reduceLT, Nat.reduceLeDiff, Nat.reduceBEq, reduceIte, reduceCtorEq, Int.reduceToNat, Int.reduceLE, Int.reduceLT, Int.reduceBEq, Int.reduceBNe] <;> rfl) exEff ?_
  rintro _ _ ⟨rfl, rfl⟩
  refine ⟨.inr ⟨rfl, rfl⟩, ?_⟩
  simp only [go_sem, Nat.reduceAdd, Nat.reduceSub, Nat.reduceMul, Nat.reduceEqDiff, Nat.reduceLT, Nat.reduceLeDiff, Nat.reduceBEq, reduceIte, reduceCtorEq, Int.reduceToNat, Int.reduceLE, Int.reduceLT, Int.reduceBEq, Int.reduceBNe]
  refine callC_of [] [6] (by decide) rfl (by simp only [go_sem, Nat.reduceAdd, Nat.reduceSub, Nat.reduceMul, Nat.reduceEqDiff, Nat.reduceLT, Nat.reduceLeDiff, Nat.reduceBEq, reduceIte, reduceCtorEq, Int.reduceToNat, Int.reduceLE, Int.reduceLT, Int.reduceBEq, Int.reduceBNe] <;> rfl) exConf ?_
  rintro _ _ ⟨rfl, rfl⟩
  refine ⟨.inr ⟨rfl, rfl⟩, ?_⟩
  simp only [go_sem, Nat.reduceAdd, Nat.reduceSub, Nat.reduceMul, Nat.reduceEqDiff, Nat.reduceLT, Nat.reduceLeDiff, Nat.reduceBEq, reduceIte, reduceCtorEq, Int.reduceToNat, Int.reduceLE, Int.reduceLT, Int.reduceBEq, Int.reduceBNe]
  refine callC_of [] [8, 9] (by decide) rfl (by simp only [go_sem, Nat.reduceAdd, Nat.reduceSub, Nat.reduceMul, Nat.reduceEqDiff, Nat.reduceLT, Nat.reduceLeDiff, Nat.reduceBEq, reduceIte, reduceCtorEq, Int.reduceToNat, Int.reduceLE, Int.reduceLT, Int.reduceBEq, Int.reduceBNe] <;> rfl) exMrg ?_
  rintro _ _ ⟨rfl, rfl⟩
  refine ⟨.inr ⟨rfl, rfl⟩, ?_⟩
  simp only [go_sem, Nat.reduceAdd, Nat.reduceSub, Nat.reduceMul, Nat.reduceEqDiff, Nat.reduceLT, Nat.reduceLeDiff, Nat.reduceBEq, reduceIte, reduceCtorEq, Int.reduceToNat, Int.reduceLE, Int.reduceLT, Int.reduceBEq, Int.reduceBNe, els_cons, els_nil, cel_ev, cel_ky, cel_stamp, exI, exA, exB, exO]
  refine callD_det (compare_ok exI exO) rfl rfl ?_
  have hcm : cmpE exI exO = -1 := by kernel_rfl
  rw [hcm]
  simp only [go_sem, Nat.reduceAdd, Nat.reduceSub, Nat.reduceMul, Nat.reduceEqDiff, Nat.reduceLT, Nat.reduceLeDiff, Nat.reduceBEq, reduceIte, reduceCtorEq, Int.reduceToNat, Int.reduceLE, Int.reduceLT, Int.reduceBEq, Int.reduceBNe]
  exact Cl.fin rfl ⟨rfl, rfl⟩

end Go.Proofs.Ytodbafiepdcfbaa
