/- Overtime: the first example of the chapter. -/
import Derived.Test.YtodbafiepdcfbaaA5Tot2
set_option linter.unusedSimpArgs false
set_option linter.unusedVariables false
set_option linter.unusedSectionVars false
namespace Go.Proofs.Ytodbafiepdcfbaa
open Go Go.Abs
set_option linter.unusedSimpArgs false
set_option linter.unusedVariables false

theorem day_ok (d f m : Int) : AFn Try.prog 43 [.int .i64 d, .int .i64 f, .int .i64 m] [] (fun v rs => v = .agg [.int .i64 d, .pure 2 (els [Iv.mk f (IntKind.i64.wrap (f + m))])] ∧ rs = []) := by
  refine afnW Try.func43 a43_ok (by simp [a43]) ?_
  simp only [go_sem, Nat.reduceAdd, Nat.reduceSub, Nat.reduceMul, Nat.reduceEqDiff, Nat.reduceLT, Nat.reduceLeDiff, Nat.reduceBEq, reduceIte, reduceCtorEq, Int.reduceToNat, Int.reduceLE, Int.reduceLT, Int.reduceBEq, Int.reduceBNe, a43, a43r0, a43r1]
  repeat (refine Cl.here ?_; simp only [go_sem, Nat.reduceAdd, Nat.reduceSub, Nat.reduceMul, Nat.reduceEqDiff, Nat.reduceLT, Nat.reduceLeDiff, Nat.reduceBEq, reduceIte, reduceCtorEq, Int.reduceToNat, Int.reduceLE, Int.reduceLT, Int.reduceBEq, Int.reduceBNe])
  (refine Cl.frz [] [ 1] rfl rfl (by simp only [go_sem, Nat.reduceAdd, Nat.reduceSub, Nat.reduceMul, Nat.reduceEqDiff, Nat.reduceLT, Nat.reduceLeDiff, Nat.reduceBEq, reduceIte, reduceCtorEq, Int.reduceToNat, Int.reduceLE, Int.reduceLT, Int.reduceBEq, Int.reduceBNe] <;> rfl) ?_; simp only [go_sem, Nat.reduceAdd, Nat.reduceSub, Nat.reduceMul, Nat.reduceEqDiff, Nat.reduceLT, Nat.reduceLeDiff, Nat.reduceBEq, reduceIte, reduceCtorEq, Int.reduceToNat, Int.reduceLE, Int.reduceLT, Int.reduceBEq, Int.reduceBNe])
  exact Cl.here ⟨rfl, rfl⟩

theorem spE_of {ws : List Wk} (h1 : ws.length ≤ 1024) (h2 : ∀ w ∈ ws, w.iv.length ≤ 1024) (h3 : ∀ w ∈ ws, wkP w) (h4 : (flatS ws).Pairwise disj) (h5 : sumS (flatS ws) ≤ 100000) : spE ws = 0 := by
  unfold spE
  rw [if_neg (by omega), if_neg (fun ⟨w, hw, h⟩ => by have := h2 w hw; omega), if_neg (fun h => h h3), if_neg (fun h => h h4), if_neg (by omega)]

def bs (l : List UInt8) : ByteArray := ⟨l.toArray⟩
def nmN : ByteArray := ⟨#[110, 111, 114, 109, 97, 108]⟩
def nmO1 : ByteArray := ⟨#[111, 116, 49]⟩
def nmO2 : ByteArray := ⟨#[111, 116, 50]⟩
def exR : Rl := ⟨nmN, [⟨nmO1, 480⟩, ⟨nmO2, 600⟩], []⟩
def exW : List Wk := [⟨5, [⟨7200, 7860⟩]⟩]
def exP : List Pc := [⟨5, 7200, 7680, nmN⟩, ⟨5, 7680, 7800, nmO1⟩, ⟨5, 7800, 7860, nmO2⟩]
theorem exR_ok : vR exR = 0 := by kernel_rfl
theorem exW_ok : spE exW = 0 := by
  refine spE_of (by decide) (by simp [exW]) ?_ (by simp [exW, flatS, flatW]) (by simp [exW, flatS, flatW, sumS])
  intro w hw
  simp only [exW, List.mem_singleton] at hw
  subst hw
  exact ⟨by decide, by simp [ivP]⟩
theorem exP_ok : (run exR (mins [⟨5, 7200, 7860⟩])).ps = exP := by kernel_rfl
theorem exT_ok : totals exP 5 = [⟨nmN, 480⟩, ⟨nmO1, 120⟩, ⟨nmO2, 60⟩] := by kernel_rfl

theorem exDiv : AFn Try.prog 20 [.agg [.str nmN, .pure 2 (els [Bd.mk nmO1 480, Bd.mk nmO2 600]), .nils], .pure 2 (els exW)] [] (fun v rs => v = .tup [.own 0 3 0 3, .int .i64 0] ∧ rs = [.live 50 4 (els exP)]) := by
  refine ((divide_ok exR exW (by decide)).le (by simp [leL, le, Rl.v, exR, els])).mono ?_
  rintro v rs (⟨h, _⟩ | ⟨_, h, _⟩ | ⟨_, _, S, hp, _, rfl, rfl⟩)
  · exact (h exR_ok).elim
  · exact (h exW_ok).elim
  · have hS : S = [⟨5, 7200, 7860⟩] := List.perm_singleton.1 hp
    subst hS
    rw [exP_ok]
    exact ⟨rfl, rfl⟩

theorem exVal : AFn Try.prog 44 [.agg [.str nmN, .pure 2 (els [Bd.mk nmO1 480, Bd.mk nmO2 600]), .nils]] [] (fun v rs => v = .int .i64 0 ∧ rs = []) := by
  refine ((valid_ok exR).le (by simp [leL, le, Rl.v, exR, els])).mono ?_
  rintro v rs ⟨rfl, rfl⟩
  rw [exR_ok]
  exact ⟨rfl, rfl⟩
theorem els_cons {α : Type} [Cel α] (x : α) (l : List α) : els (x :: l) = Cel.c x :: els l := rfl

theorem sane_ok : AFn Try.prog 17 [] [] (fun v rs => v = .bool true ∧ rs = []) := by
  refine afn Try.func17 a17_ok (by simp [a17]) ?_
  simp only [go_sem, Nat.reduceAdd, Nat.reduceSub, Nat.reduceMul, Nat.reduceEqDiff, Nat.reduceLT, Nat.reduceLeDiff, Nat.reduceBEq, reduceIte, reduceCtorEq, Int.reduceToNat, Int.reduceLE, Int.reduceLT, Int.reduceBEq, Int.reduceBNe, a17, a17r0, a17r1, a17r2, a17r3, a17r4]
  refine callD_det (day_ok 5 7200 660) rfl rfl ?_
  rw [wrap_i64 (x := 7200 + 660) (by omega) (by omega)]
  simp only [go_sem, Nat.reduceAdd, Nat.reduceSub, Nat.reduceMul, Nat.reduceEqDiff, Nat.reduceLT, Nat.reduceLeDiff, Nat.reduceBEq, reduceIte, reduceCtorEq, Int.reduceToNat, Int.reduceLE, Int.reduceLT, Int.reduceBEq, Int.reduceBNe]
  refine callD_of [] [0, 2] (by simp only [go_sem, Nat.reduceAdd, Nat.reduceSub, Nat.reduceMul, Nat.reduceEqDiff, Nat.reduceLT, Nat.reduceLeDiff, Nat.reduceBEq, reduceIte, reduceCtorEq, Int.reduceToNat, Int.reduceLE, Int.reduceLT, Int.reduceBEq, Int.reduceBNe]) (by decide) rfl (by simp only [go_sem, Nat.reduceAdd, Nat.reduceSub, Nat.reduceMul, Nat.reduceEqDiff, Nat.reduceLT, Nat.reduceLeDiff, Nat.reduceBEq, reduceIte, reduceCtorEq, Int.reduceToNat, Int.reduceLE, Int.reduceLT, Int.reduceBEq, Int.reduceBNe] <;> rfl) exDiv ?_
  rintro _ _ ⟨rfl, rfl⟩
  refine ⟨.inr ⟨rfl, rfl⟩, ?_⟩
  simp only [go_sem, Nat.reduceAdd, Nat.reduceSub, Nat.reduceMul, Nat.reduceEqDiff, Nat.reduceLT, Nat.reduceLeDiff, Nat.reduceBEq, reduceIte, reduceCtorEq, Int.reduceToNat, Int.reduceLE, Int.reduceLT, Int.reduceBEq, Int.reduceBNe]
  have hT := totals_ok exP (by decide) 5
  rw [exT_ok] at hT
  refine callC_of [] [3] (by decide) rfl (by simp only [go_sem, Nat.reduceAdd, Nat.reduceSub, Nat.reduceMul, Nat.reduceEqDiff, Nat.reduceLT, Nat.reduceLeDiff, Nat.reduceBEq, reduceIte, reduceCtorEq, Int.reduceToNat, Int.reduceLE, Int.reduceLT, Int.reduceBEq, Int.reduceBNe] <;> rfl) hT ?_
  rintro _ _ ⟨rfl, rfl⟩
  refine ⟨.inr ⟨rfl, rfl⟩, ?_⟩
  simp only [go_sem, Nat.reduceAdd, Nat.reduceSub, Nat.reduceMul, Nat.reduceEqDiff, Nat.reduceLT, Nat.reduceLeDiff, Nat.reduceBEq, reduceIte, reduceCtorEq, Int.reduceToNat, Int.reduceLE, Int.reduceLT, Int.reduceBEq, Int.reduceBNe]
  refine callC_of [] [0] (by decide) rfl (by simp only [go_sem, Nat.reduceAdd, Nat.reduceSub, Nat.reduceMul, Nat.reduceEqDiff, Nat.reduceLT, Nat.reduceLeDiff, Nat.reduceBEq, reduceIte, reduceCtorEq, Int.reduceToNat, Int.reduceLE, Int.reduceLT, Int.reduceBEq, Int.reduceBNe] <;> rfl) exVal ?_
  rintro _ _ ⟨rfl, rfl⟩
  refine ⟨.inr ⟨rfl, rfl⟩, ?_⟩
  simp only [go_sem, Nat.reduceAdd, Nat.reduceSub, Nat.reduceMul, Nat.reduceEqDiff, Nat.reduceLT, Nat.reduceLeDiff, Nat.reduceBEq, reduceIte, reduceCtorEq, Int.reduceToNat, Int.reduceLE, Int.reduceLT, Int.reduceBEq, Int.reduceBNe, exP, els_cons, els_nil, cel_pc, cel_tm, nmN, nmO1, nmO2]
  exact Cl.fin rfl ⟨rfl, rfl⟩

end Go.Proofs.Ytodbafiepdcfbaa
