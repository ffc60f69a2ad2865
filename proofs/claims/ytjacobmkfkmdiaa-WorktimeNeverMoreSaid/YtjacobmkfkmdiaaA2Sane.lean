/- The examples of the chapter. -/
import Derived.Test.YtjacobmkfkmdiaaA2Val
import Derived.Test.YtjacobmkfkmdiaaAbsMd
set_option linter.unusedSimpArgs false
set_option linter.unusedVariables false
set_option linter.unusedSectionVars false
namespace Go.Proofs.Ytjacobmkfkmdiaa
open Go Go.Abs
set_option linter.unusedSimpArgs false

theorem pairOwn_ok (l : List Stamp) (n : Int) (hl : l.length ≤ 9223372036854775806) : AFn Try.prog 15 [.own 0 l.length 0 l.length, .int .i64 n] [.live 34 4 (els l)]
    (fun v rs => v = .tup [.pure 3 (els (pairP l n)), .pure 2 (els (pairA l n)), .int .i64 (pcheck l n)] ∧ rs = [.dead]) :=
  (AFn.give rfl (pair_ok l n hl) (by rintro _ _ ⟨rfl, rfl⟩; exact ⟨by simp [clean, cleanL], rfl⟩)).mono (by rintro _ _ ⟨⟨rfl, _⟩, rfl⟩; exact ⟨rfl, rfl⟩)

theorem els_cons {α : Type} [Cel α] {x : α} {l : List α} : els (x :: l) = Cel.c x :: els l := rfl
theorem sane_ok : AFn Try.prog 19 [] [] (fun v rs => v = .bool true ∧ rs = []) := by
  refine afn Try.func19 a19_ok (by simp [a19]) ?_
  simp only [go_sem, Nat.reduceAdd, Nat.reduceSub, Nat.reduceMul, Nat.reduceEqDiff, Nat.reduceLT, Nat.reduceLeDiff, Nat.reduceBEq, reduceIte, reduceCtorEq, Int.reduceToNat, Int.reduceLE, Int.reduceLT, Int.reduceBEq, Int.reduceBNe, a19, a19r0, a19r1, a19r2, a19r3]
  refine callC_of [0] [] (by decide) (by simp only [go_sem, Nat.reduceAdd, Nat.reduceSub, Nat.reduceMul, Nat.reduceEqDiff, Nat.reduceLT, Nat.reduceLeDiff, Nat.reduceBEq, reduceIte, reduceCtorEq, Int.reduceToNat, Int.reduceLE, Int.reduceLT, Int.reduceBEq, Int.reduceBNe] <;> rfl) (by simp only [go_sem, Nat.reduceAdd, Nat.reduceSub, Nat.reduceMul, Nat.reduceEqDiff, Nat.reduceLT, Nat.reduceLeDiff, Nat.reduceBEq, reduceIte, reduceCtorEq, Int.reduceToNat, Int.reduceLE, Int.reduceLT, Int.reduceBEq, Int.reduceBNe] <;> rfl) (pairOwn_ok [⟨480, 1, 0, 0⟩, ⟨720, 3, 0, 0⟩, ⟨750, 4, 0, 0⟩, ⟨1020, 2, 0, 0⟩] 900 (by simp)) ?_
  rintro _ _ ⟨rfl, rfl⟩
  refine ⟨.inl rfl, ?_⟩
  rw [show pairP [⟨480, 1, 0, 0⟩, ⟨720, 3, 0, 0⟩, ⟨750, 4, 0, 0⟩, ⟨1020, 2, 0, 0⟩] 900 = [⟨480, 1020, [⟨720, 750⟩]⟩] from rfl,
    show pairA [⟨480, 1, 0, 0⟩, ⟨720, 3, 0, 0⟩, ⟨750, 4, 0, 0⟩, ⟨1020, 2, 0, 0⟩] 900 = [] from rfl,
    show pcheck [⟨480, 1, 0, 0⟩, ⟨720, 3, 0, 0⟩, ⟨750, 4, 0, 0⟩, ⟨1020, 2, 0, 0⟩] 900 = 0 from rfl]
  simp only [go_sem, Nat.reduceAdd, Nat.reduceSub, Nat.reduceMul, Nat.reduceEqDiff, Nat.reduceLT, Nat.reduceLeDiff, Nat.reduceBEq, reduceIte, reduceCtorEq, Int.reduceToNat, Int.reduceLE, Int.reduceLT, Int.reduceBEq, Int.reduceBNe]
  refine callC_of [1] [] (by decide) (by simp only [go_sem, Nat.reduceAdd, Nat.reduceSub, Nat.reduceMul, Nat.reduceEqDiff, Nat.reduceLT, Nat.reduceLeDiff, Nat.reduceBEq, reduceIte, reduceCtorEq, Int.reduceToNat, Int.reduceLE, Int.reduceLT, Int.reduceBEq, Int.reduceBNe] <;> rfl) (by simp only [go_sem, Nat.reduceAdd, Nat.reduceSub, Nat.reduceMul, Nat.reduceEqDiff, Nat.reduceLT, Nat.reduceLeDiff, Nat.reduceBEq, reduceIte, reduceCtorEq, Int.reduceToNat, Int.reduceLE, Int.reduceLT, Int.reduceBEq, Int.reduceBNe] <;> rfl) (pairOwn_ok [⟨480, 1, 0, 0⟩, ⟨500, 1, 0, 0⟩, ⟨1000, 2, 0, 0⟩] 900 (by simp)) ?_
  rintro _ _ ⟨rfl, rfl⟩
  refine ⟨.inl rfl, ?_⟩
  rw [show pairP [⟨480, 1, 0, 0⟩, ⟨500, 1, 0, 0⟩, ⟨1000, 2, 0, 0⟩] 900 = [⟨500, 1000, []⟩] from rfl,
    show pairA [⟨480, 1, 0, 0⟩, ⟨500, 1, 0, 0⟩, ⟨1000, 2, 0, 0⟩] 900 = [⟨1, 480⟩] from rfl,
    show pcheck [⟨480, 1, 0, 0⟩, ⟨500, 1, 0, 0⟩, ⟨1000, 2, 0, 0⟩] 900 = 0 from rfl]
  simp only [go_sem, Nat.reduceAdd, Nat.reduceSub, Nat.reduceMul, Nat.reduceEqDiff, Nat.reduceLT, Nat.reduceLeDiff, Nat.reduceBEq, reduceIte, reduceCtorEq, Int.reduceToNat, Int.reduceLE, Int.reduceLT, Int.reduceBEq, Int.reduceBNe]
  refine ⟨by decide, ?_⟩
  refine callC_det (min_ok ⟨480, 1020, [⟨720, 750⟩]⟩) rfl rfl ?_
  rw [show pmin ⟨480, 1020, [⟨720, 750⟩]⟩ = 510 from rfl]
  simp only [go_sem, Nat.reduceAdd, Nat.reduceSub, Nat.reduceMul, Nat.reduceEqDiff, Nat.reduceLT, Nat.reduceLeDiff, Nat.reduceBEq, reduceIte, reduceCtorEq, Int.reduceToNat, Int.reduceLE, Int.reduceLT, Int.reduceBEq, Int.reduceBNe, els_cons, cel_pre, cel_an]
  refine callC_det (valid_ok [⟨480, 1020, [⟨720, 750⟩]⟩] (by simp)) rfl rfl ?_
  rw [show pvalid [⟨480, 1020, [⟨720, 750⟩]⟩] = 0 from rfl]
  simp only [go_sem, Nat.reduceAdd, Nat.reduceSub, Nat.reduceMul, Nat.reduceEqDiff, Nat.reduceLT, Nat.reduceLeDiff, Nat.reduceBEq, reduceIte, reduceCtorEq, Int.reduceToNat, Int.reduceLE, Int.reduceLT, Int.reduceBEq, Int.reduceBNe]
  exact Cl.fin rfl ⟨rfl, rfl⟩

end Go.Proofs.Ytjacobmkfkmdiaa
