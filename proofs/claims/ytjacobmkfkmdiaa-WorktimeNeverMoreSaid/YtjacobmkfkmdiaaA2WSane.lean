/- Working time: the examples of the chapter. -/
import Derived.Test.YtjacobmkfkmdiaaA2Wc5
import Derived.Test.YtjacobmkfkmdiaaAbsMd
set_option linter.unusedSimpArgs false
set_option linter.unusedVariables false
set_option linter.unusedSectionVars false
namespace Go.Proofs.Ytjacobmkfkmdiaa
open Go Go.Abs
set_option linter.unusedSimpArgs false

theorem wone_ok (f t : Int) : AFn Try.prog 57 [.int .i64 f, .int .i64 t] [] (fun v rs => v = .agg [.int .i64 0, .int .i64 1, .pure 3 (els [Pre.mk f t []])] ∧ rs = []) := by
  refine afnW Try.func57 a57_ok (by simp [a57]) ?_
  simp only [go_sem, Nat.reduceAdd, Nat.reduceSub, Nat.reduceMul, Nat.reduceEqDiff, Nat.reduceLT, Nat.reduceLeDiff, Nat.reduceBEq, reduceIte, reduceCtorEq, Int.reduceToNat, Int.reduceLE, Int.reduceLT, Int.reduceBEq, Int.reduceBNe, a57, a57r0, a57r1]
  repeat (refine Cl.here ?_; simp only [go_sem, Nat.reduceAdd, Nat.reduceSub, Nat.reduceMul, Nat.reduceEqDiff, Nat.reduceLT, Nat.reduceLeDiff, Nat.reduceBEq, reduceIte, reduceCtorEq, Int.reduceToNat, Int.reduceLE, Int.reduceLT, Int.reduceBEq, Int.reduceBNe])
  (refine Cl.step (.ghostC 1  0  2  26  2 rfl (by simp) (by decide) rfl) ?_; simp only [go_sem, Nat.reduceAdd, Nat.reduceSub, Nat.reduceMul, Nat.reduceEqDiff, Nat.reduceLT, Nat.reduceLeDiff, Nat.reduceBEq, reduceIte, reduceCtorEq, Int.reduceToNat, Int.reduceLE, Int.reduceLT, Int.reduceBEq, Int.reduceBNe, splice])
  (refine Cl.frz [some 1] [ 2] rfl rfl (by simp only [go_sem, Nat.reduceAdd, Nat.reduceSub, Nat.reduceMul, Nat.reduceEqDiff, Nat.reduceLT, Nat.reduceLeDiff, Nat.reduceBEq, reduceIte, reduceCtorEq, Int.reduceToNat, Int.reduceLE, Int.reduceLT, Int.reduceBEq, Int.reduceBNe] <;> rfl) ?_; simp only [go_sem, Nat.reduceAdd, Nat.reduceSub, Nat.reduceMul, Nat.reduceEqDiff, Nat.reduceLT, Nat.reduceLeDiff, Nat.reduceBEq, reduceIte, reduceCtorEq, Int.reduceToNat, Int.reduceLE, Int.reduceLT, Int.reduceBEq, Int.reduceBNe])
  (refine Cl.frz [] [ 0] rfl rfl (by simp only [go_sem, Nat.reduceAdd, Nat.reduceSub, Nat.reduceMul, Nat.reduceEqDiff, Nat.reduceLT, Nat.reduceLeDiff, Nat.reduceBEq, reduceIte, reduceCtorEq, Int.reduceToNat, Int.reduceLE, Int.reduceLT, Int.reduceBEq, Int.reduceBNe] <;> rfl) ?_; simp only [go_sem, Nat.reduceAdd, Nat.reduceSub, Nat.reduceMul, Nat.reduceEqDiff, Nat.reduceLT, Nat.reduceLeDiff, Nat.reduceBEq, reduceIte, reduceCtorEq, Int.reduceToNat, Int.reduceLE, Int.reduceLT, Int.reduceBEq, Int.reduceBNe])
  exact Cl.here ⟨rfl, rfl⟩

theorem cel_els1 (f t : Int) : (els [Pre.mk f t []]).length = 1 := rfl
theorem adjN (g m s : Int) (pl : Iv) (sh day : Int) (ps : List Pre) (h : adjE ⟨g, m, s, []⟩ pl ps = 0) : AFn Try.prog 36 [.agg [.int .i64 g, .int .i64 m, .int .i64 s, .nils], .agg (Cel.c pl), .agg [.int .i64 sh, .int .i64 day, .pure 3 (els ps)]] []
    (fun v rs => v = .tup [.agg [.int .i64 day, .pure 2 (els (workP ⟨g, m, s, []⟩ pl ps))], .int .i64 0] ∧ rs = []) :=
  (adjustFull_ok ⟨g, m, s, []⟩ pl sh day ps h).le (by simp [leL, le, cel_rul, cel_iv, els])
theorem adjO (g m s : Int) (bs : List Br) (pl : Iv) (sh day : Int) (ps : List Pre) (h : adjE ⟨g, m, s, bs⟩ pl ps = 0) : AFn Try.prog 36 [.agg [.int .i64 g, .int .i64 m, .int .i64 s, .own 0 bs.length 0 bs.length], .agg (Cel.c pl), .agg [.int .i64 sh, .int .i64 day, .pure 3 (els ps)]] [.live 108 2 (els bs)]
    (fun v rs => v = .tup [.agg [.int .i64 day, .pure 2 (els (workP ⟨g, m, s, bs⟩ pl ps))], .int .i64 0] ∧ rs = [.dead]) :=
  (AFn.give1 (l := bs) (args' := [.agg (Cel.c (Rul.mk g m s bs)), .agg (Cel.c pl), .agg [.int .i64 sh, .int .i64 day, .pure 3 (els ps)]])
    (by
      have hb : bindV [.live 108 2 (els bs)] [none] [0] (.own 0 bs.length 0 bs.length) = .pure 2 (els bs) := bindV_frz rfl rfl rfl els_length.symm els_clean
      simp only [bindV] at hb
      simp only [bindL, bindV, cel_rul, cel_iv]
      rw [hb])
    (by simp [cleanL, clean, cel_rul, cel_iv]) (adjustFull_ok ⟨g, m, s, bs⟩ pl sh day ps h) (by rintro _ _ ⟨rfl, rfl⟩; exact ⟨by simp [clean, cleanL], rfl⟩)).mono (by rintro _ _ ⟨⟨rfl, _⟩, rfl⟩; exact ⟨rfl, rfl⟩)

theorem wsane_ok : AFn Try.prog 33 [] [] (fun v rs => v = .bool true ∧ rs = []) := by
  refine afn Try.func33 a33_ok (by simp [a33]) ?_
  simp only [go_sem, Nat.reduceAdd, Nat.reduceSub, Nat.reduceMul, Nat.reduceEqDiff, Nat.reduceLT, Nat.reduceLeDiff, Nat.reduceBEq, reduceIte, reduceCtorEq, Int.reduceToNat, Int.reduceLE, Int.reduceLT, Int.reduceBEq, Int.reduceBNe, a33, a33r0, a33r1, a33r2, a33r3, a33r4]
  refine callC_det (wone_ok 477 1023) rfl rfl ?_
  simp only [go_sem, Nat.reduceAdd, Nat.reduceSub, Nat.reduceMul, Nat.reduceEqDiff, Nat.reduceLT, Nat.reduceLeDiff, Nat.reduceBEq, reduceIte, reduceCtorEq, Int.reduceToNat, Int.reduceLE, Int.reduceLT, Int.reduceBEq, Int.reduceBNe]
  refine callC_det (adjN 0 0 5 ⟨480, 1020⟩ 0 1 [⟨477, 1023, []⟩] rfl) rfl rfl ?_
  rw [show workP ⟨0, 0, 5, []⟩ ⟨480, 1020⟩ [⟨477, 1023, []⟩] = [⟨480, 1020⟩] from rfl]
  simp only [go_sem, Nat.reduceAdd, Nat.reduceSub, Nat.reduceMul, Nat.reduceEqDiff, Nat.reduceLT, Nat.reduceLeDiff, Nat.reduceBEq, reduceIte, reduceCtorEq, Int.reduceToNat, Int.reduceLE, Int.reduceLT, Int.reduceBEq, Int.reduceBNe]
  refine callC_det (wone_ok 0 480) rfl rfl ?_
  simp only [go_sem, Nat.reduceAdd, Nat.reduceSub, Nat.reduceMul, Nat.reduceEqDiff, Nat.reduceLT, Nat.reduceLeDiff, Nat.reduceBEq, reduceIte, reduceCtorEq, Int.reduceToNat, Int.reduceLE, Int.reduceLT, Int.reduceBEq, Int.reduceBNe]
  refine callC_of [1] [] (by decide) (by simp only [go_sem, Nat.reduceAdd, Nat.reduceSub, Nat.reduceMul, Nat.reduceEqDiff, Nat.reduceLT, Nat.reduceLeDiff, Nat.reduceBEq, reduceIte, reduceCtorEq, Int.reduceToNat, Int.reduceLE, Int.reduceLT, Int.reduceBEq, Int.reduceBNe] <;> rfl) (by simp only [go_sem, Nat.reduceAdd, Nat.reduceSub, Nat.reduceMul, Nat.reduceEqDiff, Nat.reduceLT, Nat.reduceLeDiff, Nat.reduceBEq, reduceIte, reduceCtorEq, Int.reduceToNat, Int.reduceLE, Int.reduceLT, Int.reduceBEq, Int.reduceBNe] <;> rfl) (adjO 0 0 0 [⟨360, 30⟩] ⟨0, 0⟩ 0 1 [⟨0, 480, []⟩] rfl) ?_
  rintro _ _ ⟨rfl, rfl⟩
  refine ⟨.inl rfl, ?_⟩
  rw [show workP ⟨0, 0, 0, [⟨360, 30⟩]⟩ ⟨0, 0⟩ [⟨0, 480, []⟩] = [⟨0, 360⟩, ⟨390, 480⟩] from rfl]
  simp only [go_sem, Nat.reduceAdd, Nat.reduceSub, Nat.reduceMul, Nat.reduceEqDiff, Nat.reduceLT, Nat.reduceLeDiff, Nat.reduceBEq, reduceIte, reduceCtorEq, Int.reduceToNat, Int.reduceLE, Int.reduceLT, Int.reduceBEq, Int.reduceBNe]
  refine callC_det (wone_ok 482 1018) rfl rfl ?_
  simp only [go_sem, Nat.reduceAdd, Nat.reduceSub, Nat.reduceMul, Nat.reduceEqDiff, Nat.reduceLT, Nat.reduceLeDiff, Nat.reduceBEq, reduceIte, reduceCtorEq, Int.reduceToNat, Int.reduceLE, Int.reduceLT, Int.reduceBEq, Int.reduceBNe]
  refine callC_det (adjN 15 1 0 ⟨0, 0⟩ 0 1 [⟨482, 1018, []⟩] rfl) rfl rfl ?_
  rw [show workP ⟨15, 1, 0, []⟩ ⟨0, 0⟩ [⟨482, 1018, []⟩] = [⟨495, 1005⟩] from rfl]
  simp only [go_sem, Nat.reduceAdd, Nat.reduceSub, Nat.reduceMul, Nat.reduceEqDiff, Nat.reduceLT, Nat.reduceLeDiff, Nat.reduceBEq, reduceIte, reduceCtorEq, Int.reduceToNat, Int.reduceLE, Int.reduceLT, Int.reduceBEq, Int.reduceBNe, els_cons, cel_iv]
  refine callC_det (wmin_ok [⟨0, 360⟩, ⟨390, 480⟩] (by simp)) rfl rfl ?_
  rw [show minP (List.take 1024 [⟨0, 360⟩, ⟨390, 480⟩]) = 450 from rfl]
  simp only [go_sem, Nat.reduceAdd, Nat.reduceSub, Nat.reduceMul, Nat.reduceEqDiff, Nat.reduceLT, Nat.reduceLeDiff, Nat.reduceBEq, reduceIte, reduceCtorEq, Int.reduceToNat, Int.reduceLE, Int.reduceLT, Int.reduceBEq, Int.reduceBNe, els_cons, cel_iv]
  exact Cl.fin rfl ⟨rfl, rfl⟩

end Go.Proofs.Ytjacobmkfkmdiaa
