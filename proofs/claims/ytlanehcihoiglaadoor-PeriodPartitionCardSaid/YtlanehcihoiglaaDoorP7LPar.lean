/- PeriodPartition: the walk. -/
import Derived.Test.YtlanehcihoiglaaDoorP7Sane
set_option linter.unusedSimpArgs false
set_option linter.unusedVariables false
set_option linter.unusedSectionVars false
namespace Go.Proofs.YtlanehcihoiglaaDoor
open Go Go.Abs
set_option linter.unusedSimpArgs false
set_option linter.unusedVariables false

/-- a day is in the span of its period -/
theorem of_in {k a d : Int} (h : calE k a = 0) (hd : okD d) : 0 ≤ ofP k a d ∧ ofP k a d < cntP k a ∧ (spP k a (ofP k a d)).1 ≤ d ∧ d ≤ (spP k a (ofP k a d)).2 := by
  have hk := calE_kind h
  have hc := cnt_kind h
  have hm := mon_bd hd
  have h1 := hd.1
  have h2 := hd.2
  unfold ofP spP
  by_cases h0 : k = 0
  · rw [if_pos h0, if_pos h0]
    rw [if_pos h0] at hc
    simp only
    omega
  rw [if_neg h0, if_neg h0]
  rw [if_neg h0] at hc
  by_cases h1' : k = 1
  · rw [if_pos h1', if_pos h1']
    rw [if_pos h1'] at hc
    by_cases hg : 14 < (dateM d).2
    · rw [if_pos hg, if_neg (by omega), show (2 * monthP d + 1) / 2 = monthP d from by omega]
      simp only
      omega
    · rw [if_neg hg, if_pos (by omega), show (2 * monthP d + 0) / 2 = monthP d from by omega]
      simp only
      omega
  rw [if_neg h1', if_neg h1']
  rw [if_neg h1'] at hc
  have hl : lenC k = 14 ∨ lenC k = 7 := by unfold lenC; split <;> simp
  have hmi : 0 ≤ misC k a ∧ misC k a < lenC k := ⟨Int.emod_nonneg _ (by omega), Int.emod_lt_of_pos _ (by omega)⟩
  simp only
  rcases hl with h9 | h9 <;> (rw [h9] at hc hmi ⊢; omega)
/-- two spans meet -/
theorem sp_next {k a n : Int} (h : calE k a = 0) (hn : 0 ≤ n ∧ n < cntP k a) : (n + 1 = cntP k a → (spP k a n).2 = 84005) ∧ (n + 1 ≠ cntP k a → (spP k a (n + 1)).1 = (spP k a n).2 + 1) := by
  have hk := calE_kind h
  have hc := cnt_kind h
  unfold spP
  by_cases h0 : k = 0
  · rw [if_pos h0, if_pos h0]
    rw [if_pos h0] at hc
    simp only
    refine ⟨fun e => ?_, fun e => ?_⟩
    · have : n = 2759 := by omega
      subst this
      rfl
    · have := first_next (k := n) ⟨by omega, by omega⟩
      omega
  rw [if_neg h0, if_neg h0]
  rw [if_neg h0] at hc
  by_cases h1 : k = 1
  · rw [if_pos h1, if_pos h1]
    rw [if_pos h1] at hc
    refine ⟨fun e => ?_, fun e => ?_⟩
    · have : n = 5519 := by omega
      subst this
      rfl
    · by_cases hp : n % 2 = 0
      · rw [if_pos hp, if_neg (by omega), show (n + 1) / 2 = n / 2 from by omega]
        simp only
        omega
      · rw [if_neg hp, if_pos (by omega), show (n + 1) / 2 = n / 2 + 1 from by omega]
        have := first_next (k := n / 2) ⟨by omega, by omega⟩
        simp only
        omega
  rw [if_neg h1, if_neg h1]
  rw [if_neg h1] at hc
  have hl : lenC k = 14 ∨ lenC k = 7 := by unfold lenC; split <;> simp
  have hmi : 0 ≤ misC k a ∧ misC k a < lenC k := ⟨Int.emod_nonneg _ (by omega), Int.emod_lt_of_pos _ (by omega)⟩
  simp only
  rcases hl with h9 | h9 <;> (rw [h9] at hc hmi ⊢; omega)
theorem of_zero {k a : Int} (h : calE k a = 0) : ofP k a 0 = 0 := by
  have hk := calE_kind h
  unfold ofP
  have hm : monthP 0 = 0 := rfl
  have hd : (dateM 0).2 = 0 := rfl
  rw [hm, hd]
  split
  · rfl
  split
  · rfl
  unfold misC lenC
  split <;> omega

theorem periodPartition (l : List Int) (hl : TapeOk l) (d : Int) : AFn Tryd.prog 4 [.pure 1 (numsE .i64 l), .int .i64 d] [] (fun v _ => v = .bool true) := by
  refine afnW Tryd.func4 a4_ok (by simp [a4]) ?_
  simp only [go_sem, Nat.reduceAdd, Nat.reduceSub, Nat.reduceMul, Nat.reduceEqDiff, Nat.reduceLT, Nat.reduceLeDiff, Nat.reduceBEq, reduceIte, reduceCtorEq, Int.reduceToNat, Int.reduceLE, Int.reduceLT, Int.reduceBEq, Int.reduceBNe, a4, a4r0, a4r1, a4r2, a4r3, a4r4, a4r5, a4r6, a4r7, a4r8, a4r9, a4r10, a4r11, a4r12, a4r13, a4r14]
  (repeat (first | (refine Cl.here ?_; simp only [go_sem, Nat.reduceAdd, Nat.reduceSub, Nat.reduceMul, Nat.reduceEqDiff, Nat.reduceLT, Nat.reduceLeDiff, Nat.reduceBEq, reduceIte, reduceCtorEq, Int.reduceToNat, Int.reduceLE, Int.reduceLT, Int.reduceBEq, Int.reduceBNe]) | simp only [go_sem, Nat.reduceAdd, Nat.reduceSub, Nat.reduceMul, Nat.reduceEqDiff, Nat.reduceLT, Nat.reduceLeDiff, Nat.reduceBEq, reduceIte, reduceCtorEq, Int.reduceToNat, Int.reduceLE, Int.reduceLT, Int.reduceBEq, Int.reduceBNe]))
  (refine callC_of [] [] (by simp) rfl (bindL_clean _ (by first | rfl | simp only [go_sem, Nat.reduceAdd, Nat.reduceSub, Nat.reduceMul, Nat.reduceEqDiff, Nat.reduceLT, Nat.reduceLeDiff, Nat.reduceBEq, reduceIte, reduceCtorEq, Int.reduceToNat, Int.reduceLE, Int.reduceLT, Int.reduceBEq, Int.reduceBNe])) (new_ok l) ?_; rintro _ _ ⟨rfl, rfl⟩; refine ⟨.inl rfl, ?_⟩; simp only [go_sem, Nat.reduceAdd, Nat.reduceSub, Nat.reduceMul, Nat.reduceEqDiff, Nat.reduceLT, Nat.reduceLeDiff, Nat.reduceBEq, reduceIte, reduceCtorEq, Int.reduceToNat, Int.reduceLE, Int.reduceLT, Int.reduceBEq, Int.reduceBNe])
  unfold tp
  (repeat (first | (refine Cl.here ?_; simp only [go_sem, Nat.reduceAdd, Nat.reduceSub, Nat.reduceMul, Nat.reduceEqDiff, Nat.reduceLT, Nat.reduceLeDiff, Nat.reduceBEq, reduceIte, reduceCtorEq, Int.reduceToNat, Int.reduceLE, Int.reduceLT, Int.reduceBEq, Int.reduceBNe]) | simp only [go_sem, Nat.reduceAdd, Nat.reduceSub, Nat.reduceMul, Nat.reduceEqDiff, Nat.reduceLT, Nat.reduceLeDiff, Nat.reduceBEq, reduceIte, reduceCtorEq, Int.reduceToNat, Int.reduceLE, Int.reduceLT, Int.reduceBEq, Int.reduceBNe]))
  refine callC_tape (tcal_ok l hl false) rfl rfl (by omega) (by omega) ?_
  rintro _ at1 h0 h1 ⟨k, a, rfl, hc⟩
  have hc := hc rfl
  (repeat (first | (refine Cl.here ?_; simp only [go_sem, Nat.reduceAdd, Nat.reduceSub, Nat.reduceMul, Nat.reduceEqDiff, Nat.reduceLT, Nat.reduceLeDiff, Nat.reduceBEq, reduceIte, reduceCtorEq, Int.reduceToNat, Int.reduceLE, Int.reduceLT, Int.reduceBEq, Int.reduceBNe]) | simp only [go_sem, Nat.reduceAdd, Nat.reduceSub, Nat.reduceMul, Nat.reduceEqDiff, Nat.reduceLT, Nat.reduceLeDiff, Nat.reduceBEq, reduceIte, reduceCtorEq, Int.reduceToNat, Int.reduceLE, Int.reduceLT, Int.reduceBEq, Int.reduceBNe]))
  have hm := mod_bounds (v := d) (n := 84006) (by omega)
  refine callC_det (mod_ok d 84006 (by omega) (by omega)) rfl rfl ?_
  generalize mod d 84006 = y at hm
  simp only [go_sem, Nat.reduceAdd, Nat.reduceSub, Nat.reduceMul, Nat.reduceEqDiff, Nat.reduceLT, Nat.reduceLeDiff, Nat.reduceBEq, reduceIte, reduceCtorEq, Int.reduceToNat, Int.reduceLE, Int.reduceLT, Int.reduceBEq, Int.reduceBNe]
  refine Cl.here (avcW_seq_cut (fun env rows => ∃ (x at_ : Int), okD x ∧ norm [6, 7] env = [(6, .ref 1 1 0 0), (7, .int .i64 x)] ∧ rows = [tapeRow 57 l at_, .live 24 2 [[.int .i64 k, .int .i64 a]]]) ?_ ?_)
  · (repeat (first | (refine Cl.here ?_; simp only [go_sem, Nat.reduceAdd, Nat.reduceSub, Nat.reduceMul, Nat.reduceEqDiff, Nat.reduceLT, Nat.reduceLeDiff, Nat.reduceBEq, reduceIte, reduceCtorEq, Int.reduceToNat, Int.reduceLE, Int.reduceLT, Int.reduceBEq, Int.reduceBNe]) | simp only [go_sem, Nat.reduceAdd, Nat.reduceSub, Nat.reduceMul, Nat.reduceEqDiff, Nat.reduceLT, Nat.reduceLeDiff, Nat.reduceBEq, reduceIte, reduceCtorEq, Int.reduceToNat, Int.reduceLE, Int.reduceLT, Int.reduceBEq, Int.reduceBNe]))
    refine callC_tape (next_ok l hl 2 (by omega)) rfl rfl h0 h1 ?_
    rintro _ at2 h0 h1 ⟨z, rfl, _, _⟩
    by_cases hz : z = 0
    · have hzb : (z == 0) = true := by simp [hz]
      (repeat (first | (refine Cl.here ?_; simp only [go_sem, Nat.reduceAdd, Nat.reduceSub, Nat.reduceMul, Nat.reduceEqDiff, Nat.reduceLT, Nat.reduceLeDiff, Nat.reduceBEq, reduceIte, reduceCtorEq, Int.reduceToNat, Int.reduceLE, Int.reduceLT, Int.reduceBEq, Int.reduceBNe, hzb]) | simp only [go_sem, Nat.reduceAdd, Nat.reduceSub, Nat.reduceMul, Nat.reduceEqDiff, Nat.reduceLT, Nat.reduceLeDiff, Nat.reduceBEq, reduceIte, reduceCtorEq, Int.reduceToNat, Int.reduceLE, Int.reduceLT, Int.reduceBEq, Int.reduceBNe, hzb]))
      refine callC_tape (tdayB_ok l hl) rfl rfl h0 h1 ?_
      rintro _ at3 h0 h1 ⟨x, rfl, hx⟩
      (repeat (first | (refine Cl.here ?_; simp only [go_sem, Nat.reduceAdd, Nat.reduceSub, Nat.reduceMul, Nat.reduceEqDiff, Nat.reduceLT, Nat.reduceLeDiff, Nat.reduceBEq, reduceIte, reduceCtorEq, Int.reduceToNat, Int.reduceLE, Int.reduceLT, Int.reduceBEq, Int.reduceBNe]) | simp only [go_sem, Nat.reduceAdd, Nat.reduceSub, Nat.reduceMul, Nat.reduceEqDiff, Nat.reduceLT, Nat.reduceLeDiff, Nat.reduceBEq, reduceIte, reduceCtorEq, Int.reduceToNat, Int.reduceLE, Int.reduceLT, Int.reduceBEq, Int.reduceBNe]))
      exact ⟨x, at3, hx, rfl, rfl⟩
    · have hzb : (z == 0) = false := by simp [hz]
      (repeat (first | (refine Cl.here ?_; simp only [go_sem, Nat.reduceAdd, Nat.reduceSub, Nat.reduceMul, Nat.reduceEqDiff, Nat.reduceLT, Nat.reduceLeDiff, Nat.reduceBEq, reduceIte, reduceCtorEq, Int.reduceToNat, Int.reduceLE, Int.reduceLT, Int.reduceBEq, Int.reduceBNe, hzb]) | simp only [go_sem, Nat.reduceAdd, Nat.reduceSub, Nat.reduceMul, Nat.reduceEqDiff, Nat.reduceLT, Nat.reduceLeDiff, Nat.reduceBEq, reduceIte, reduceCtorEq, Int.reduceToNat, Int.reduceLE, Int.reduceLT, Int.reduceBEq, Int.reduceBNe, hzb]))
      exact ⟨y, at2, ⟨by omega, by omega⟩, rfl, rfl⟩
  rintro env rows ⟨x, at_, hx, hn, rfl⟩
  refine Cl.norm [6, 7] ?_
  rw [hn]
  (refine Cl.tr [some 1] [] rfl rfl (by simp only [go_sem, Nat.reduceAdd, Nat.reduceSub, Nat.reduceMul, Nat.reduceEqDiff, Nat.reduceLT, Nat.reduceLeDiff, Nat.reduceBEq, reduceIte, reduceCtorEq, Int.reduceToNat, Int.reduceLE, Int.reduceLT, Int.reduceBEq, Int.reduceBNe] <;> rfl) ?_; simp only [go_sem, Nat.reduceAdd, Nat.reduceSub, Nat.reduceMul, Nat.reduceEqDiff, Nat.reduceLT, Nat.reduceLeDiff, Nat.reduceBEq, reduceIte, reduceCtorEq, Int.reduceToNat, Int.reduceLE, Int.reduceLT, Int.reduceBEq, Int.reduceBNe])
  have hO := Of_ok k a x
  rw [if_neg (fun e => e hc), if_pos hx] at hO
  obtain ⟨p0, p1, p2, p3⟩ := of_in hc hx
  obtain ⟨q0, q1⟩ := sp_next hc ⟨p0, p1⟩
  have hcb : cntP k a ≤ 84021 := by
    unfold cntP
    have := ofP_bd hc maxD
    split <;> omega
  generalize ofP k a x = n at *
  have hS := Span_ok k a n (by omega) (by omega)
  rw [if_neg (fun e => e hc), if_pos ⟨p0, p1⟩] at hS
  have hT := Span_ok k a (n + 1) (by omega) (by omega)
  rw [if_neg (fun e => e hc)] at hT
  obtain ⟨b0, b1, b2, b3⟩ := sp_bd hc ⟨p0, p1⟩
  (repeat (first | (refine Cl.here ?_; simp only [go_sem, Nat.reduceAdd, Nat.reduceSub, Nat.reduceMul, Nat.reduceEqDiff, Nat.reduceLT, Nat.reduceLeDiff, Nat.reduceBEq, reduceIte, reduceCtorEq, Int.reduceToNat, Int.reduceLE, Int.reduceLT, Int.reduceBEq, Int.reduceBNe]) | simp only [go_sem, Nat.reduceAdd, Nat.reduceSub, Nat.reduceMul, Nat.reduceEqDiff, Nat.reduceLT, Nat.reduceLeDiff, Nat.reduceBEq, reduceIte, reduceCtorEq, Int.reduceToNat, Int.reduceLE, Int.reduceLT, Int.reduceBEq, Int.reduceBNe]))
  refine callC_det hO rfl rfl ?_
  (repeat (first | (refine Cl.here ?_; simp only [go_sem, Nat.reduceAdd, Nat.reduceSub, Nat.reduceMul, Nat.reduceEqDiff, Nat.reduceLT, Nat.reduceLeDiff, Nat.reduceBEq, reduceIte, reduceCtorEq, Int.reduceToNat, Int.reduceLE, Int.reduceLT, Int.reduceBEq, Int.reduceBNe]) | simp only [go_sem, Nat.reduceAdd, Nat.reduceSub, Nat.reduceMul, Nat.reduceEqDiff, Nat.reduceLT, Nat.reduceLeDiff, Nat.reduceBEq, reduceIte, reduceCtorEq, Int.reduceToNat, Int.reduceLE, Int.reduceLT, Int.reduceBEq, Int.reduceBNe]))
  refine callC_det hS rfl rfl ?_
  have c1 : ¬ x < (spP k a n).1 := by omega
  have c2 : ¬ x > (spP k a n).2 := by omega
  have c3 : ¬ n < 0 := by omega
  have c4 : ¬ n ≥ cntP k a := by omega
  have hw : IntKind.i64.wrap (n + 1) = n + 1 := wrap_i64 (by omega) (by omega)
  have hw2 : IntKind.i64.wrap ((spP k a n).2 + 1) = (spP k a n).2 + 1 := wrap_i64 (by omega) (by omega)
  (repeat (first | (refine Cl.here ?_; simp only [go_sem, Nat.reduceAdd, Nat.reduceSub, Nat.reduceMul, Nat.reduceEqDiff, Nat.reduceLT, Nat.reduceLeDiff, Nat.reduceBEq, reduceIte, reduceCtorEq, Int.reduceToNat, Int.reduceLE, Int.reduceLT, Int.reduceBEq, Int.reduceBNe, bne_self_eq_false, c1, c2, c3]) | simp only [go_sem, Nat.reduceAdd, Nat.reduceSub, Nat.reduceMul, Nat.reduceEqDiff, Nat.reduceLT, Nat.reduceLeDiff, Nat.reduceBEq, reduceIte, reduceCtorEq, Int.reduceToNat, Int.reduceLE, Int.reduceLT, Int.reduceBEq, Int.reduceBNe, bne_self_eq_false, c1, c2, c3]))
  refine callC_det (Count_ok k a) rfl rfl ?_
  (repeat (first | (refine Cl.here ?_; simp only [go_sem, Nat.reduceAdd, Nat.reduceSub, Nat.reduceMul, Nat.reduceEqDiff, Nat.reduceLT, Nat.reduceLeDiff, Nat.reduceBEq, reduceIte, reduceCtorEq, Int.reduceToNat, Int.reduceLE, Int.reduceLT, Int.reduceBEq, Int.reduceBNe, c4, hw]) | simp only [go_sem, Nat.reduceAdd, Nat.reduceSub, Nat.reduceMul, Nat.reduceEqDiff, Nat.reduceLT, Nat.reduceLeDiff, Nat.reduceBEq, reduceIte, reduceCtorEq, Int.reduceToNat, Int.reduceLE, Int.reduceLT, Int.reduceBEq, Int.reduceBNe, c4, hw]))
  by_cases hl : n + 1 = cntP k a
  · rw [if_neg (by omega)] at hT
    have hlb : (n + 1 == cntP k a) = true := by simp [hl]
    refine callC_det hT rfl rfl ?_
    (repeat (first | (refine Cl.here ?_; simp only [go_sem, Nat.reduceAdd, Nat.reduceSub, Nat.reduceMul, Nat.reduceEqDiff, Nat.reduceLT, Nat.reduceLeDiff, Nat.reduceBEq, reduceIte, reduceCtorEq, Int.reduceToNat, Int.reduceLE, Int.reduceLT, Int.reduceBEq, Int.reduceBNe, hw]) | simp only [go_sem, Nat.reduceAdd, Nat.reduceSub, Nat.reduceMul, Nat.reduceEqDiff, Nat.reduceLT, Nat.reduceLeDiff, Nat.reduceBEq, reduceIte, reduceCtorEq, Int.reduceToNat, Int.reduceLE, Int.reduceLT, Int.reduceBEq, Int.reduceBNe, hw]))
    refine callC_det (Count_ok k a) rfl rfl ?_
    (repeat (first | (refine Cl.here ?_; simp only [go_sem, Nat.reduceAdd, Nat.reduceSub, Nat.reduceMul, Nat.reduceEqDiff, Nat.reduceLT, Nat.reduceLeDiff, Nat.reduceBEq, reduceIte, reduceCtorEq, Int.reduceToNat, Int.reduceLE, Int.reduceLT, Int.reduceBEq, Int.reduceBNe, hlb, q0 hl]) | simp only [go_sem, Nat.reduceAdd, Nat.reduceSub, Nat.reduceMul, Nat.reduceEqDiff, Nat.reduceLT, Nat.reduceLeDiff, Nat.reduceBEq, reduceIte, reduceCtorEq, Int.reduceToNat, Int.reduceLE, Int.reduceLT, Int.reduceBEq, Int.reduceBNe, hlb, q0 hl]))
    refine callC_det sane_ok rfl rfl ?_
    (repeat (first | (refine Cl.here ?_; simp only [go_sem, Nat.reduceAdd, Nat.reduceSub, Nat.reduceMul, Nat.reduceEqDiff, Nat.reduceLT, Nat.reduceLeDiff, Nat.reduceBEq, reduceIte, reduceCtorEq, Int.reduceToNat, Int.reduceLE, Int.reduceLT, Int.reduceBEq, Int.reduceBNe]) | simp only [go_sem, Nat.reduceAdd, Nat.reduceSub, Nat.reduceMul, Nat.reduceEqDiff, Nat.reduceLT, Nat.reduceLeDiff, Nat.reduceBEq, reduceIte, reduceCtorEq, Int.reduceToNat, Int.reduceLE, Int.reduceLT, Int.reduceBEq, Int.reduceBNe]))
    exact Cl.fin rfl rfl
  · rw [if_pos (by omega)] at hT
    have hlb : (n + 1 == cntP k a) = false := by simp [hl]
    refine callC_det hT rfl rfl ?_
    (repeat (first | (refine Cl.here ?_; simp only [go_sem, Nat.reduceAdd, Nat.reduceSub, Nat.reduceMul, Nat.reduceEqDiff, Nat.reduceLT, Nat.reduceLeDiff, Nat.reduceBEq, reduceIte, reduceCtorEq, Int.reduceToNat, Int.reduceLE, Int.reduceLT, Int.reduceBEq, Int.reduceBNe, hw]) | simp only [go_sem, Nat.reduceAdd, Nat.reduceSub, Nat.reduceMul, Nat.reduceEqDiff, Nat.reduceLT, Nat.reduceLeDiff, Nat.reduceBEq, reduceIte, reduceCtorEq, Int.reduceToNat, Int.reduceLE, Int.reduceLT, Int.reduceBEq, Int.reduceBNe, hw]))
    refine callC_det (Count_ok k a) rfl rfl ?_
    (repeat (first | (refine Cl.here ?_; simp only [go_sem, Nat.reduceAdd, Nat.reduceSub, Nat.reduceMul, Nat.reduceEqDiff, Nat.reduceLT, Nat.reduceLeDiff, Nat.reduceBEq, reduceIte, reduceCtorEq, Int.reduceToNat, Int.reduceLE, Int.reduceLT, Int.reduceBEq, Int.reduceBNe, hlb]) | simp only [go_sem, Nat.reduceAdd, Nat.reduceSub, Nat.reduceMul, Nat.reduceEqDiff, Nat.reduceLT, Nat.reduceLeDiff, Nat.reduceBEq, reduceIte, reduceCtorEq, Int.reduceToNat, Int.reduceLE, Int.reduceLT, Int.reduceBEq, Int.reduceBNe, hlb]))
    have hO0 := Of_ok k a 0
    rw [if_neg (fun e => e hc), if_pos (show okD 0 from ⟨by omega, by omega⟩), of_zero hc] at hO0
    refine callC_det hO0 rfl rfl ?_
    have hq := q1 hl
    (repeat (first | (refine Cl.here ?_; simp only [go_sem, Nat.reduceAdd, Nat.reduceSub, Nat.reduceMul, Nat.reduceEqDiff, Nat.reduceLT, Nat.reduceLeDiff, Nat.reduceBEq, reduceIte, reduceCtorEq, Int.reduceToNat, Int.reduceLE, Int.reduceLT, Int.reduceBEq, Int.reduceBNe, hw2, hq, beq_self_eq_true]) | simp only [go_sem, Nat.reduceAdd, Nat.reduceSub, Nat.reduceMul, Nat.reduceEqDiff, Nat.reduceLT, Nat.reduceLeDiff, Nat.reduceBEq, reduceIte, reduceCtorEq, Int.reduceToNat, Int.reduceLE, Int.reduceLT, Int.reduceBEq, Int.reduceBNe, hw2, hq, beq_self_eq_true]))
    refine callC_det sane_ok rfl rfl ?_
    (repeat (first | (refine Cl.here ?_; simp only [go_sem, Nat.reduceAdd, Nat.reduceSub, Nat.reduceMul, Nat.reduceEqDiff, Nat.reduceLT, Nat.reduceLeDiff, Nat.reduceBEq, reduceIte, reduceCtorEq, Int.reduceToNat, Int.reduceLE, Int.reduceLT, Int.reduceBEq, Int.reduceBNe]) | simp only [go_sem, Nat.reduceAdd, Nat.reduceSub, Nat.reduceMul, Nat.reduceEqDiff, Nat.reduceLT, Nat.reduceLeDiff, Nat.reduceBEq, reduceIte, reduceCtorEq, Int.reduceToNat, Int.reduceLE, Int.reduceLT, Int.reduceBEq, Int.reduceBNe]))
    exact Cl.fin rfl rfl

end Go.Proofs.YtlanehcihoiglaaDoor
