/- Working time: Adjust. -/
import Derived.Test.YtjacobmkfkmdiaaA2Wc4
set_option linter.unusedSimpArgs false
set_option linter.unusedVariables false
set_option linter.unusedSectionVars false
namespace Go.Proofs.Ytjacobmkfkmdiaa
open Go Go.Abs
set_option linter.unusedSimpArgs false

theorem adjP_ok {r : Rul} {pl : Iv} : ∀ {ps : List Pre} {last : Int}, brOk last 120968640 (adjP r pl last ps) = true
  | [], _ => rfl
  | p :: ps, last => by
    have ih := adjP_ok (r := r) (pl := pl) (ps := ps) (last := max last (stayP r pl last p).to)
    have h1 : last ≤ (stayP r pl last p).fr := by simp only [stayP]; omega
    have h2 : (stayP r pl last p).to ≤ 120968640 := by simp only [stayP]; omega
    rw [adjP]
    split
    · rw [brOk, Bool.and_eq_true]
      exact ⟨by simp only [ivIn, decide_eq_true_eq]; omega, brOk_low ih (by omega)⟩
    · exact brOk_low ih (by omega)
theorem brOk_app : ∀ {l r : List Iv} {e t T : Int}, brOk e t l = true → brOk t T r = true → e ≤ t → t ≤ T → brOk e T (l ++ r) = true
  | [], r, e, t, T, _, h, he, _ => brOk_low h he
  | b :: l, r, e, t, T, h, h2, he, hT => by
    simp only [brOk, ivIn, Bool.and_eq_true, decide_eq_true_eq] at h
    rw [List.cons_append, brOk, Bool.and_eq_true]
    exact ⟨by simp only [ivIn, decide_eq_true_eq]; omega, brOk_app h.2 h2 (by omega) hT⟩
theorem brkP_ok : ∀ {ps : List Pre} {e : Int}, presOk e ps = true → brOk e 120968640 (brkP ps) = true
  | [], _, _ => rfl
  | p :: ps, e, h => by
    simp only [presOk, preOk, ivIn, Bool.and_eq_true, decide_eq_true_eq] at h
    have ih := brkP_ok h.2
    show brOk e 120968640 (p.br ++ brkP ps) = true
    exact brOk_app (t := p.to) (brOk_low h.1.2 (by omega)) ih (by omega) (by omega)
theorem brkP_len : ∀ {ps : List Pre}, (∀ p ∈ ps, p.br.length ≤ 1024) → (brkP ps).length ≤ 1024 * ps.length
  | [], _ => by simp [brkP]
  | p :: ps, h => by
    have ih := brkP_len (ps := ps) (fun q hq => h q (by simp [hq]))
    have hp := h p (by simp)
    show (p.br ++ brkP ps).length ≤ _
    rw [List.length_append, List.length_cons]; omega
theorem rulE_zero {r : Rul} (h : rulE r = 0) : r.modeOk ∧ brsOk (-1) 0 r.brs = true ∧ r.brs.length ≤ 16 := by
  unfold rulE at h
  split at h
  · omega
  · split at h
    · rename_i h1; exact ⟨h1.1, h1.2, by omega⟩
    · omega
theorem adjE_zero {r : Rul} {pl : Iv} {ps : List Pre} (h : adjE r pl ps = 0) : rulE r = 0 ∧ plOk pl ∧ pvalid ps = 0 ∧ ivT (adjP r pl 0 ps) ≤ 100000 := by
  unfold adjE at h
  split at h
  · omega
  · rename_i h1
    split at h
    · omega
    · rename_i h2
      split at h
      · omega
      · rename_i h3
        split at h
        · omega
        · refine ⟨by omega, ?_, by omega, by omega⟩
          unfold plOk
          by_cases hz : pl.fr = 0 ∧ pl.to = 0
          · exact .inl hz
          · right
            cases hiv : ivIn pl 0 120968640
            · exact absurd ⟨hz, hiv⟩ h2
            · rfl

theorem adjustFull_ok (r : Rul) (pl : Iv) (sh day : Int) (ps : List Pre) (h : adjE r pl ps = 0) : AFn Try.prog 36 [.agg (Cel.c r), .agg (Cel.c pl), .agg [.int .i64 sh, .int .i64 day, .pure 3 (els ps)]] []
    (fun v rs => v = .tup [.agg [.int .i64 day, .pure 2 (els (workP r pl ps))], .int .i64 0] ∧ rs = []) := by
  obtain ⟨h1, h2, h3, h4⟩ := adjE_zero h
  obtain ⟨hmo, hbo, hbl⟩ := rulE_zero h1
  have hpo := pvalid_presOk h3
  have hpm := presOk_mem hpo (by omega)
  have hlen : ps.length ≤ 1024 := by unfold pvalid at h3; split at h3 <;> omega
  refine afn Try.func36 a36_ok (by simp [a36]) ?_
  simp only [go_sem, Nat.reduceAdd, Nat.reduceSub, Nat.reduceMul, Nat.reduceEqDiff, Nat.reduceLT, Nat.reduceLeDiff, Nat.reduceBEq, reduceIte, reduceCtorEq, Int.reduceToNat, Int.reduceLE, Int.reduceLT, Int.reduceBEq, Int.reduceBNe, a36, a36r0, a36r1, a36r2, a36r3, a36r4, a36r5, a36r6, a36r7, a36r8, a36r9, a36r10, a36r11, a36r12, a36r13, cel_rul, cel_iv]
  refine callC_det (rulValid_ok r) rfl rfl ?_
  rw [h1]
  simp only [go_sem, Nat.reduceAdd, Nat.reduceSub, Nat.reduceMul, Nat.reduceEqDiff, Nat.reduceLT, Nat.reduceLeDiff, Nat.reduceBEq, reduceIte, reduceCtorEq, Int.reduceToNat, Int.reduceLE, Int.reduceLT, Int.reduceBEq, Int.reduceBNe]
  have hA := adjust_ok r hmo pl h2 ps hpo hlen
  have hab := adjP_ok (r := r) (pl := pl) (ps := ps) (last := 0)
  have hai := brOk_in hab (by omega)
  have hal := ivsIn_len hai
  have hT := total_ok _ hai (by omega)
  have hbk := brkP_ok hpo
  have hB := breaks_ok ps hlen (fun p hp => (hpm p hp).2.2.2.1)
  have hbl2 := brkP_len (ps := ps) (fun p hp => (hpm p hp).2.2.2.1)
  have hW := without_ok _ _ hai h4 hbk (by omega)
  obtain ⟨hwi, hwt⟩ := woP_in (r := []) hbk (by omega) hai (by simp [ivsIn])
  have hE := enforce_ok r.brs _ hbl hbo hwi (by simp only [ivT] at hwt; omega)
  have hwk : workP r pl ps = if (woP (adjP r pl 0 ps) (brkP ps) []).isEmpty then [] else enfP r.brs (takenP (woP (adjP r pl 0 ps) (brkP ps) [])) (woP (adjP r pl 0 ps) (brkP ps) []) := rfl
  generalize adjP r pl 0 ps = st at *
  generalize brkP ps = bk at *
  generalize woP st bk [] = wo at *
  have hd : decide (100000 < ivT st) = false := decide_eq_false (by omega)
  by_cases hz : pl.fr = 0 ∧ pl.to = 0
  · have hb : (!(pl.fr == 0 && pl.to == 0)) = false := by simp [hz.1, hz.2]
    simp only [go_sem, Nat.reduceAdd, Nat.reduceSub, Nat.reduceMul, Nat.reduceEqDiff, Nat.reduceLT, Nat.reduceLeDiff, Nat.reduceBEq, reduceIte, reduceCtorEq, Int.reduceToNat, Int.reduceLE, Int.reduceLT, Int.reduceBEq, Int.reduceBNe, hb]
    refine callC_det (valid_ok ps (by omega)) rfl rfl ?_
    rw [h3]
    simp only [go_sem, Nat.reduceAdd, Nat.reduceSub, Nat.reduceMul, Nat.reduceEqDiff, Nat.reduceLT, Nat.reduceLeDiff, Nat.reduceBEq, reduceIte, reduceCtorEq, Int.reduceToNat, Int.reduceLE, Int.reduceLT, Int.reduceBEq, Int.reduceBNe]
    refine callC_det hA rfl rfl ?_
    simp only [go_sem, Nat.reduceAdd, Nat.reduceSub, Nat.reduceMul, Nat.reduceEqDiff, Nat.reduceLT, Nat.reduceLeDiff, Nat.reduceBEq, reduceIte, reduceCtorEq, Int.reduceToNat, Int.reduceLE, Int.reduceLT, Int.reduceBEq, Int.reduceBNe]
    refine callC_det hT rfl rfl ?_
    simp only [go_sem, Nat.reduceAdd, Nat.reduceSub, Nat.reduceMul, Nat.reduceEqDiff, Nat.reduceLT, Nat.reduceLeDiff, Nat.reduceBEq, reduceIte, reduceCtorEq, Int.reduceToNat, Int.reduceLE, Int.reduceLT, Int.reduceBEq, Int.reduceBNe, hd]
    refine callD_det hB rfl rfl ?_
    simp only [go_sem, Nat.reduceAdd, Nat.reduceSub, Nat.reduceMul, Nat.reduceEqDiff, Nat.reduceLT, Nat.reduceLeDiff, Nat.reduceBEq, reduceIte, reduceCtorEq, Int.reduceToNat, Int.reduceLE, Int.reduceLT, Int.reduceBEq, Int.reduceBNe]
    refine callD_det hW rfl rfl ?_
    simp only [go_sem, Nat.reduceAdd, Nat.reduceSub, Nat.reduceMul, Nat.reduceEqDiff, Nat.reduceLT, Nat.reduceLeDiff, Nat.reduceBEq, reduceIte, reduceCtorEq, Int.reduceToNat, Int.reduceLE, Int.reduceLT, Int.reduceBEq, Int.reduceBNe]
    refine callD_det hE rfl rfl ?_
    simp only [go_sem, Nat.reduceAdd, Nat.reduceSub, Nat.reduceMul, Nat.reduceEqDiff, Nat.reduceLT, Nat.reduceLeDiff, Nat.reduceBEq, reduceIte, reduceCtorEq, Int.reduceToNat, Int.reduceLE, Int.reduceLT, Int.reduceBEq, Int.reduceBNe]
    exact Cl.fin rfl ⟨by rw [hwk], rfl⟩
  · have hb : (!(pl.fr == 0 && pl.to == 0)) = true := by simp; omega
    have hiv : ivIn ⟨pl.fr, pl.to⟩ 0 120968640 = true := by rcases h2 with h2 | h2; exact absurd h2 hz; exact h2
    simp only [go_sem, Nat.reduceAdd, Nat.reduceSub, Nat.reduceMul, Nat.reduceEqDiff, Nat.reduceLT, Nat.reduceLeDiff, Nat.reduceBEq, reduceIte, reduceCtorEq, Int.reduceToNat, Int.reduceLE, Int.reduceLT, Int.reduceBEq, Int.reduceBNe, hb]
    refine callC_det (wvalid_ok pl.fr pl.to) rfl rfl ?_
    rw [hiv]
    simp only [go_sem, Nat.reduceAdd, Nat.reduceSub, Nat.reduceMul, Nat.reduceEqDiff, Nat.reduceLT, Nat.reduceLeDiff, Nat.reduceBEq, reduceIte, reduceCtorEq, Int.reduceToNat, Int.reduceLE, Int.reduceLT, Int.reduceBEq, Int.reduceBNe]
    refine callC_det (valid_ok ps (by omega)) rfl rfl ?_
    rw [h3]
    simp only [go_sem, Nat.reduceAdd, Nat.reduceSub, Nat.reduceMul, Nat.reduceEqDiff, Nat.reduceLT, Nat.reduceLeDiff, Nat.reduceBEq, reduceIte, reduceCtorEq, Int.reduceToNat, Int.reduceLE, Int.reduceLT, Int.reduceBEq, Int.reduceBNe]
    refine callC_det hA rfl rfl ?_
    simp only [go_sem, Nat.reduceAdd, Nat.reduceSub, Nat.reduceMul, Nat.reduceEqDiff, Nat.reduceLT, Nat.reduceLeDiff, Nat.reduceBEq, reduceIte, reduceCtorEq, Int.reduceToNat, Int.reduceLE, Int.reduceLT, Int.reduceBEq, Int.reduceBNe]
    refine callC_det hT rfl rfl ?_
    simp only [go_sem, Nat.reduceAdd, Nat.reduceSub, Nat.reduceMul, Nat.reduceEqDiff, Nat.reduceLT, Nat.reduceLeDiff, Nat.reduceBEq, reduceIte, reduceCtorEq, Int.reduceToNat, Int.reduceLE, Int.reduceLT, Int.reduceBEq, Int.reduceBNe, hd]
    refine callD_det hB rfl rfl ?_
    simp only [go_sem, Nat.reduceAdd, Nat.reduceSub, Nat.reduceMul, Nat.reduceEqDiff, Nat.reduceLT, Nat.reduceLeDiff, Nat.reduceBEq, reduceIte, reduceCtorEq, Int.reduceToNat, Int.reduceLE, Int.reduceLT, Int.reduceBEq, Int.reduceBNe]
    refine callD_det hW rfl rfl ?_
    simp only [go_sem, Nat.reduceAdd, Nat.reduceSub, Nat.reduceMul, Nat.reduceEqDiff, Nat.reduceLT, Nat.reduceLeDiff, Nat.reduceBEq, reduceIte, reduceCtorEq, Int.reduceToNat, Int.reduceLE, Int.reduceLT, Int.reduceBEq, Int.reduceBNe]
    refine callD_det hE rfl rfl ?_
    simp only [go_sem, Nat.reduceAdd, Nat.reduceSub, Nat.reduceMul, Nat.reduceEqDiff, Nat.reduceLT, Nat.reduceLeDiff, Nat.reduceBEq, reduceIte, reduceCtorEq, Int.reduceToNat, Int.reduceLE, Int.reduceLT, Int.reduceBEq, Int.reduceBNe]
    exact Cl.fin rfl ⟨by rw [hwk], rfl⟩

end Go.Proofs.Ytjacobmkfkmdiaa
