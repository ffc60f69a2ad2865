/- Made presences. -/
import Derived.Test.YtjacobmkfkmdiaaA2SndPl
set_option linter.unusedSimpArgs false
set_option linter.unusedVariables false
set_option linter.unusedSectionVars false
namespace Go.Proofs.Ytjacobmkfkmdiaa
open Go Go.Abs
set_option linter.unusedSimpArgs false

theorem presences_ok (l : List Int) (hl : TapeOk l) (n : Int) (hn0 : 0 ≤ n) (hn : n ≤ 1000) (at_ : Int) (h0 : 0 ≤ at_) (h1 : at_ ≤ l.length) : AFn Try.prog 21 [.ref 0 1 0 0, .int .i64 n] [tp l at_]
    (fun v rs => ∃ (a : Int) (ps : List Pre), v = .own 1 ps.length 0 ps.length ∧ rs = [tp l a, .live 29 3 (els ps)] ∧ 0 ≤ a ∧ a ≤ l.length ∧ ps.length ≤ n ∧ presOk 0 ps = true ∧ ∀ p ∈ ps, p.to - p.fr ≤ 545 ∧ p.br.length ≤ 2 ∧ p.to ≤ 40000000 ∧ 29453760 ≤ p.fr) := by
  refine afnW Try.func21 a21_ok (by simp [a21]) ?_
  simp only [go_sem, Nat.reduceAdd, Nat.reduceSub, Nat.reduceMul, Nat.reduceEqDiff, Nat.reduceLT, Nat.reduceLeDiff, Nat.reduceBEq, reduceIte, reduceCtorEq, Int.reduceToNat, Int.reduceLE, Int.reduceLT, Int.reduceBEq, Int.reduceBNe, a21, a21r0, a21r1, a21r2, a21r3, a21r4, a21r5, a21r6, a21r7, a21r8, a21r9, a21r10, a21r11, a21r12, a21r13, a21r14, a21r15, a21r16, tp]
  (refine Cl.here ?_; simp only [go_sem, Nat.reduceAdd, Nat.reduceSub, Nat.reduceMul, Nat.reduceEqDiff, Nat.reduceLT, Nat.reduceLeDiff, Nat.reduceBEq, reduceIte, reduceCtorEq, Int.reduceToNat, Int.reduceLE, Int.reduceLT, Int.reduceBEq, Int.reduceBNe])
  (refine callC_pick [0, 420, 470, 480] (pick_ok l hl _ (by simp) (by simp)) rfl rfl rfl rfl rfl (by decide) (by omega) (by omega) ?_; rintro _ at_ _ _ ⟨d, hmem, rfl⟩; simp only [List.mem_cons, List.not_mem_nil, or_false] at hmem; simp only [go_sem, Nat.reduceAdd, Nat.reduceSub, Nat.reduceMul, Nat.reduceEqDiff, Nat.reduceLT, Nat.reduceLeDiff, Nat.reduceBEq, reduceIte, reduceCtorEq, Int.reduceToNat, Int.reduceLE, Int.reduceLT, Int.reduceBEq, Int.reduceBNe])
  have hd : 0 ≤ d ∧ d ≤ 480 := by omega
  clear hmem
  rw [wrap_i64 (by omega) (by omega)]
  (refine Cl.here ?_; simp only [go_sem, Nat.reduceAdd, Nat.reduceSub, Nat.reduceMul, Nat.reduceEqDiff, Nat.reduceLT, Nat.reduceLeDiff, Nat.reduceBEq, reduceIte, reduceCtorEq, Int.reduceToNat, Int.reduceLE, Int.reduceLT, Int.reduceBEq, Int.reduceBNe])
  (refine Cl.here ?_; simp only [go_sem, Nat.reduceAdd, Nat.reduceSub, Nat.reduceMul, Nat.reduceEqDiff, Nat.reduceLT, Nat.reduceLeDiff, Nat.reduceBEq, reduceIte, reduceCtorEq, Int.reduceToNat, Int.reduceLE, Int.reduceLT, Int.reduceBEq, Int.reduceBNe])
  rw [wrap_i64 (by omega) (by omega)]
  (refine callC_tape (next_ok l hl (n + 1) (by omega)) rfl rfl (by omega) (by omega) ?_; rintro _ at_ _ _ ⟨ k, rfl, _, _⟩; simp only [go_sem, Nat.reduceAdd, Nat.reduceSub, Nat.reduceMul, Nat.reduceEqDiff, Nat.reduceLT, Nat.reduceLeDiff, Nat.reduceBEq, reduceIte, reduceCtorEq, Int.reduceToNat, Int.reduceLE, Int.reduceLT, Int.reduceBEq, Int.reduceBNe])
  (refine Cl.here ?_; simp only [go_sem, Nat.reduceAdd, Nat.reduceSub, Nat.reduceMul, Nat.reduceEqDiff, Nat.reduceLT, Nat.reduceLeDiff, Nat.reduceBEq, reduceIte, reduceCtorEq, Int.reduceToNat, Int.reduceLE, Int.reduceLT, Int.reduceBEq, Int.reduceBNe])
  refine avcW_loop (fun env rows => ∃ (a : Int) (ps : List Pre) (j t : Int), env = [(0, .ref 0 1 0 0), (5, .int .i64 t), (6, .own 1 ps.length 0 ps.length), (7, .int .i64 j)] ∧ rows = [tapeRow 100 l a, .live 29 3 (els ps)] ∧ 0 ≤ a ∧ a ≤ l.length ∧ 0 ≤ j ∧ ps.length + j ≤ n ∧ presOk 0 ps = true ∧ (∀ p ∈ ps, p.to - p.fr ≤ 545 ∧ p.br.length ≤ 2 ∧ p.to ≤ 40000000 ∧ 29453760 ≤ p.fr) ∧ endP 0 ps ≤ t ∧ 29453760 ≤ t ∧ t + 1505 * j ≤ 29454240 + 1505 * n)
    (fun env _ => match slot env 7 with | .int _ j => j.toNat | _ => 0) ?_ ?_
  · (refine Cl.tr [some 0] [] rfl rfl (by simp only [go_sem, Nat.reduceAdd, Nat.reduceSub, Nat.reduceMul, Nat.reduceEqDiff, Nat.reduceLT, Nat.reduceLeDiff, Nat.reduceBEq, reduceIte, reduceCtorEq, Int.reduceToNat, Int.reduceLE, Int.reduceLT, Int.reduceBEq, Int.reduceBNe] <;> rfl) ?_; simp only [go_sem, Nat.reduceAdd, Nat.reduceSub, Nat.reduceMul, Nat.reduceEqDiff, Nat.reduceLT, Nat.reduceLeDiff, Nat.reduceBEq, reduceIte, reduceCtorEq, Int.reduceToNat, Int.reduceLE, Int.reduceLT, Int.reduceBEq, Int.reduceBNe])
    (refine Cl.ghost 6  29  3 rfl (Cl.norm [ 0, 5, 6, 7] ?_); simp only [go_sem, Nat.reduceAdd, Nat.reduceSub, Nat.reduceMul, Nat.reduceEqDiff, Nat.reduceLT, Nat.reduceLeDiff, Nat.reduceBEq, reduceIte, reduceCtorEq, Int.reduceToNat, Int.reduceLE, Int.reduceLT, Int.reduceBEq, Int.reduceBNe])
    exact Cl.here ⟨at_, [], k, 29453760 + d, rfl, rfl, by omega, by omega, by omega, by simp; omega, rfl, by simp, by simp [endP]; omega, by omega, by omega⟩
  · rintro env rows ⟨at_, ps, j, t, rfl, rfl, _, _, _, _, hps, hlen, hend, _, _⟩
    simp only [go_sem, Nat.reduceAdd, Nat.reduceSub, Nat.reduceMul, Nat.reduceEqDiff, Nat.reduceLT, Nat.reduceLeDiff, Nat.reduceBEq, reduceIte, reduceCtorEq, Int.reduceToNat, Int.reduceLE, Int.reduceLT, Int.reduceBEq, Int.reduceBNe, a21, a21r0, a21r1, a21r2, a21r3, a21r4, a21r5, a21r6, a21r7, a21r8, a21r9, a21r10, a21r11, a21r12, a21r13, a21r14, a21r15, a21r16]
    repeat (refine Cl.here ?_; simp only [go_sem, Nat.reduceAdd, Nat.reduceSub, Nat.reduceMul, Nat.reduceEqDiff, Nat.reduceLT, Nat.reduceLeDiff, Nat.reduceBEq, reduceIte, reduceCtorEq, Int.reduceToNat, Int.reduceLE, Int.reduceLT, Int.reduceBEq, Int.reduceBNe])
    refine condW_intro ?_ ?_ <;> intro hg <;> simp only [decide_eq_true_eq, decide_eq_false_iff_not, beq_iff_eq, beq_eq_false_iff_ne, bne_iff_ne, bne_eq_false_iff_eq, Bool.not_eq_true', Bool.not_eq_false', Int.not_lt, Int.not_le, ne_eq, Bool.and_eq_true, Bool.or_eq_true, Bool.or_eq_false_iff, Bool.and_eq_false_iff] at hg <;> simp only [go_sem, Nat.reduceAdd, Nat.reduceSub, Nat.reduceMul, Nat.reduceEqDiff, Nat.reduceLT, Nat.reduceLeDiff, Nat.reduceBEq, reduceIte, reduceCtorEq, Int.reduceToNat, Int.reduceLE, Int.reduceLT, Int.reduceBEq, Int.reduceBNe, a21, a21r0, a21r1, a21r2, a21r3, a21r4, a21r5, a21r6, a21r7, a21r8, a21r9, a21r10, a21r11, a21r12, a21r13, a21r14, a21r15, a21r16]
    · (refine Cl.here ?_; simp only [go_sem, Nat.reduceAdd, Nat.reduceSub, Nat.reduceMul, Nat.reduceEqDiff, Nat.reduceLT, Nat.reduceLeDiff, Nat.reduceBEq, reduceIte, reduceCtorEq, Int.reduceToNat, Int.reduceLE, Int.reduceLT, Int.reduceBEq, Int.reduceBNe])
      (refine callC_pick [480, 1, 300, 545, 90] (pick_ok l hl _ (by simp) (by simp)) rfl rfl rfl rfl rfl (by decide) (by omega) (by omega) ?_; rintro _ at_ _ _ ⟨e, hmem, rfl⟩; simp only [List.mem_cons, List.not_mem_nil, or_false] at hmem; simp only [go_sem, Nat.reduceAdd, Nat.reduceSub, Nat.reduceMul, Nat.reduceEqDiff, Nat.reduceLT, Nat.reduceLeDiff, Nat.reduceBEq, reduceIte, reduceCtorEq, Int.reduceToNat, Int.reduceLE, Int.reduceLT, Int.reduceBEq, Int.reduceBNe])
      have he : 1 ≤ e ∧ e ≤ 545 := by omega
      clear hmem
      rw [wrap_i64 (by omega) (by omega)]
      (refine Cl.here ?_; simp only [go_sem, Nat.reduceAdd, Nat.reduceSub, Nat.reduceMul, Nat.reduceEqDiff, Nat.reduceLT, Nat.reduceLeDiff, Nat.reduceBEq, reduceIte, reduceCtorEq, Int.reduceToNat, Int.reduceLE, Int.reduceLT, Int.reduceBEq, Int.reduceBNe])
      (refine Cl.here ?_; simp only [go_sem, Nat.reduceAdd, Nat.reduceSub, Nat.reduceMul, Nat.reduceEqDiff, Nat.reduceLT, Nat.reduceLeDiff, Nat.reduceBEq, reduceIte, reduceCtorEq, Int.reduceToNat, Int.reduceLE, Int.reduceLT, Int.reduceBEq, Int.reduceBNe])
      (refine callC_tape (next_ok l hl 3 (by omega)) rfl rfl (by omega) (by omega) ?_; rintro _ at_ _ _ ⟨ c, rfl, _, _⟩; simp only [go_sem, Nat.reduceAdd, Nat.reduceSub, Nat.reduceMul, Nat.reduceEqDiff, Nat.reduceLT, Nat.reduceLeDiff, Nat.reduceBEq, reduceIte, reduceCtorEq, Int.reduceToNat, Int.reduceLE, Int.reduceLT, Int.reduceBEq, Int.reduceBNe])
      (refine Cl.here ?_; simp only [go_sem, Nat.reduceAdd, Nat.reduceSub, Nat.reduceMul, Nat.reduceEqDiff, Nat.reduceLT, Nat.reduceLeDiff, Nat.reduceBEq, reduceIte, reduceCtorEq, Int.reduceToNat, Int.reduceLE, Int.reduceLT, Int.reduceBEq, Int.reduceBNe])
      refine avcW_loop (fun env rows => ∃ (a : Int) (bs : List Iv) (i b : Int), env = [(0, .ref 0 1 0 0), (6, .own 1 ps.length 0 ps.length), (7, .int .i64 j), (8, .ref 2 1 0 0), (9, .int .i64 b), (10, .int .i64 i)] ∧
          rows = [tapeRow 100 l a, .live 29 3 (els ps), .live 29 3 [[.int .i64 t, .int .i64 (t + e), .own 3 bs.length 0 bs.length]], .live 26 2 (els bs)] ∧ 0 ≤ a ∧ a ≤ l.length ∧ 0 ≤ i ∧ bs.length + i ≤ 2 ∧ brOk t (t + e) bs = true ∧ b = endB t bs ∧ t ≤ b ∧ b ≤ t + e)
        (fun env _ => match slot env 10 with | .int _ j => j.toNat | _ => 0) ?_ ?_
      · (refine Cl.tr [some 0, some 1, some 3] [] rfl rfl (by simp only [go_sem, Nat.reduceAdd, Nat.reduceSub, Nat.reduceMul, Nat.reduceEqDiff, Nat.reduceLT, Nat.reduceLeDiff, Nat.reduceBEq, reduceIte, reduceCtorEq, Int.reduceToNat, Int.reduceLE, Int.reduceLT, Int.reduceBEq, Int.reduceBNe] <;> rfl) ?_; simp only [go_sem, Nat.reduceAdd, Nat.reduceSub, Nat.reduceMul, Nat.reduceEqDiff, Nat.reduceLT, Nat.reduceLeDiff, Nat.reduceBEq, reduceIte, reduceCtorEq, Int.reduceToNat, Int.reduceLE, Int.reduceLT, Int.reduceBEq, Int.reduceBNe])
        (refine Cl.step (.ghostC 2  0  2  26  2 rfl (by simp) (by decide) rfl) ?_; simp only [go_sem, Nat.reduceAdd, Nat.reduceSub, Nat.reduceMul, Nat.reduceEqDiff, Nat.reduceLT, Nat.reduceLeDiff, Nat.reduceBEq, reduceIte, reduceCtorEq, Int.reduceToNat, Int.reduceLE, Int.reduceLT, Int.reduceBEq, Int.reduceBNe, splice])
        exact Cl.here ⟨at_, [], c, t, rfl, rfl, by omega, by omega, by omega, by simp; omega, rfl, rfl, by omega, by omega⟩
      · rintro env rows ⟨at_, bs, i, b, rfl, rfl, _, _, _, _, hbs, hb, _, _⟩
        simp only [go_sem, Nat.reduceAdd, Nat.reduceSub, Nat.reduceMul, Nat.reduceEqDiff, Nat.reduceLT, Nat.reduceLeDiff, Nat.reduceBEq, reduceIte, reduceCtorEq, Int.reduceToNat, Int.reduceLE, Int.reduceLT, Int.reduceBEq, Int.reduceBNe, a21, a21r0, a21r1, a21r2, a21r3, a21r4, a21r5, a21r6, a21r7, a21r8, a21r9, a21r10, a21r11, a21r12, a21r13, a21r14, a21r15, a21r16]
        repeat (refine Cl.here ?_; simp only [go_sem, Nat.reduceAdd, Nat.reduceSub, Nat.reduceMul, Nat.reduceEqDiff, Nat.reduceLT, Nat.reduceLeDiff, Nat.reduceBEq, reduceIte, reduceCtorEq, Int.reduceToNat, Int.reduceLE, Int.reduceLT, Int.reduceBEq, Int.reduceBNe])
        refine condW_intro ?_ ?_ <;> intro hg2 <;> simp only [decide_eq_true_eq, decide_eq_false_iff_not, beq_iff_eq, beq_eq_false_iff_ne, bne_iff_ne, bne_eq_false_iff_eq, Bool.not_eq_true', Bool.not_eq_false', Int.not_lt, Int.not_le, ne_eq, Bool.and_eq_true, Bool.or_eq_true, Bool.or_eq_false_iff, Bool.and_eq_false_iff] at hg2 <;> simp only [go_sem, Nat.reduceAdd, Nat.reduceSub, Nat.reduceMul, Nat.reduceEqDiff, Nat.reduceLT, Nat.reduceLeDiff, Nat.reduceBEq, reduceIte, reduceCtorEq, Int.reduceToNat, Int.reduceLE, Int.reduceLT, Int.reduceBEq, Int.reduceBNe, a21, a21r0, a21r1, a21r2, a21r3, a21r4, a21r5, a21r6, a21r7, a21r8, a21r9, a21r10, a21r11, a21r12, a21r13, a21r14, a21r15, a21r16]
        · (refine Cl.here ?_; simp only [go_sem, Nat.reduceAdd, Nat.reduceSub, Nat.reduceMul, Nat.reduceEqDiff, Nat.reduceLT, Nat.reduceLeDiff, Nat.reduceBEq, reduceIte, reduceCtorEq, Int.reduceToNat, Int.reduceLE, Int.reduceLT, Int.reduceBEq, Int.reduceBNe])
          (refine callC_pick [0, 60, 120, 7] (pick_ok l hl _ (by simp) (by simp)) rfl rfl rfl rfl rfl (by decide) (by omega) (by omega) ?_; rintro _ at_ _ _ ⟨x, hmem, rfl⟩; simp only [List.mem_cons, List.not_mem_nil, or_false] at hmem; simp only [go_sem, Nat.reduceAdd, Nat.reduceSub, Nat.reduceMul, Nat.reduceEqDiff, Nat.reduceLT, Nat.reduceLeDiff, Nat.reduceBEq, reduceIte, reduceCtorEq, Int.reduceToNat, Int.reduceLE, Int.reduceLT, Int.reduceBEq, Int.reduceBNe])
          have hx : 0 ≤ x ∧ x ≤ 120 := by omega
          clear hmem
          rw [wrap_i64 (by omega) (by omega)]
          (refine Cl.here ?_; simp only [go_sem, Nat.reduceAdd, Nat.reduceSub, Nat.reduceMul, Nat.reduceEqDiff, Nat.reduceLT, Nat.reduceLeDiff, Nat.reduceBEq, reduceIte, reduceCtorEq, Int.reduceToNat, Int.reduceLE, Int.reduceLT, Int.reduceBEq, Int.reduceBNe])
          (refine callC_pick [15, 30, 45] (pick_ok l hl _ (by simp) (by simp)) rfl rfl rfl rfl rfl (by decide) (by omega) (by omega) ?_; rintro _ at_ _ _ ⟨y, hmem, rfl⟩; simp only [List.mem_cons, List.not_mem_nil, or_false] at hmem; simp only [go_sem, Nat.reduceAdd, Nat.reduceSub, Nat.reduceMul, Nat.reduceEqDiff, Nat.reduceLT, Nat.reduceLeDiff, Nat.reduceBEq, reduceIte, reduceCtorEq, Int.reduceToNat, Int.reduceLE, Int.reduceLT, Int.reduceBEq, Int.reduceBNe])
          have hy : 15 ≤ y ∧ y ≤ 45 := by omega
          clear hmem
          rw [wrap_i64 (by omega) (by omega)]
          (refine Cl.here ?_; simp only [go_sem, Nat.reduceAdd, Nat.reduceSub, Nat.reduceMul, Nat.reduceEqDiff, Nat.reduceLT, Nat.reduceLeDiff, Nat.reduceBEq, reduceIte, reduceCtorEq, Int.reduceToNat, Int.reduceLE, Int.reduceLT, Int.reduceBEq, Int.reduceBNe])
          (refine Cl.here ?_; simp only [go_sem, Nat.reduceAdd, Nat.reduceSub, Nat.reduceMul, Nat.reduceEqDiff, Nat.reduceLT, Nat.reduceLeDiff, Nat.reduceBEq, reduceIte, reduceCtorEq, Int.reduceToNat, Int.reduceLE, Int.reduceLT, Int.reduceBEq, Int.reduceBNe])
          have hwi : IntKind.i64.wrap (i - 1) = i - 1 := wrap_i64 (by omega) (by omega)
          refine condW_intro ?_ ?_ <;> intro hg3 <;> simp only [decide_eq_true_eq, decide_eq_false_iff_not, beq_iff_eq, beq_eq_false_iff_ne, bne_iff_ne, bne_eq_false_iff_eq, Bool.not_eq_true', Bool.not_eq_false', Int.not_lt, Int.not_le, ne_eq, Bool.and_eq_true, Bool.or_eq_true, Bool.or_eq_false_iff, Bool.and_eq_false_iff] at hg3 <;> simp only [go_sem, Nat.reduceAdd, Nat.reduceSub, Nat.reduceMul, Nat.reduceEqDiff, Nat.reduceLT, Nat.reduceLeDiff, Nat.reduceBEq, reduceIte, reduceCtorEq, Int.reduceToNat, Int.reduceLE, Int.reduceLT, Int.reduceBEq, Int.reduceBNe, a21, a21r0, a21r1, a21r2, a21r3, a21r4, a21r5, a21r6, a21r7, a21r8, a21r9, a21r10, a21r11, a21r12, a21r13, a21r14, a21r15, a21r16]
          · refine ⟨by omega, ?_⟩
            (refine Cl.here ?_; simp only [go_sem, Nat.reduceAdd, Nat.reduceSub, Nat.reduceMul, Nat.reduceEqDiff, Nat.reduceLT, Nat.reduceLeDiff, Nat.reduceBEq, reduceIte, reduceCtorEq, Int.reduceToNat, Int.reduceLE, Int.reduceLT, Int.reduceBEq, Int.reduceBNe])
            rw [hwi]
            (refine Cl.tr [some 0, some 1, some 2, some 3] [] rfl rfl (by simp only [go_sem, Nat.reduceAdd, Nat.reduceSub, Nat.reduceMul, Nat.reduceEqDiff, Nat.reduceLT, Nat.reduceLeDiff, Nat.reduceBEq, reduceIte, reduceCtorEq, Int.reduceToNat, Int.reduceLE, Int.reduceLT, Int.reduceBEq, Int.reduceBNe] <;> rfl) ?_; simp only [go_sem, Nat.reduceAdd, Nat.reduceSub, Nat.reduceMul, Nat.reduceEqDiff, Nat.reduceLT, Nat.reduceLeDiff, Nat.reduceBEq, reduceIte, reduceCtorEq, Int.reduceToNat, Int.reduceLE, Int.reduceLT, Int.reduceBEq, Int.reduceBNe])
            refine Cl.here ⟨⟨at_, bs ++ [⟨b + x, b + x + y⟩], i - 1, b + x + y, by simp, by simp, by omega, by omega, by omega, by simp; omega, ?_, by rw [endB_snoc], by omega, by omega⟩, ?_⟩
            · exact brOk_snoc hbs (by simp only; omega) (by simp only; omega) (by simp only; omega)
            · simp only [go_sem, Nat.reduceAdd, Nat.reduceSub, Nat.reduceMul, Nat.reduceEqDiff, Nat.reduceLT, Nat.reduceLeDiff, Nat.reduceBEq, reduceIte, reduceCtorEq, Int.reduceToNat, Int.reduceLE, Int.reduceLT, Int.reduceBEq, Int.reduceBNe]
              omega
          · (refine Cl.here ?_; simp only [go_sem, Nat.reduceAdd, Nat.reduceSub, Nat.reduceMul, Nat.reduceEqDiff, Nat.reduceLT, Nat.reduceLeDiff, Nat.reduceBEq, reduceIte, reduceCtorEq, Int.reduceToNat, Int.reduceLE, Int.reduceLT, Int.reduceBEq, Int.reduceBNe])
            rw [hwi]
            (refine Cl.tr [some 0, some 1, some 2, some 3] [] rfl rfl (by simp only [go_sem, Nat.reduceAdd, Nat.reduceSub, Nat.reduceMul, Nat.reduceEqDiff, Nat.reduceLT, Nat.reduceLeDiff, Nat.reduceBEq, reduceIte, reduceCtorEq, Int.reduceToNat, Int.reduceLE, Int.reduceLT, Int.reduceBEq, Int.reduceBNe] <;> rfl) ?_; simp only [go_sem, Nat.reduceAdd, Nat.reduceSub, Nat.reduceMul, Nat.reduceEqDiff, Nat.reduceLT, Nat.reduceLeDiff, Nat.reduceBEq, reduceIte, reduceCtorEq, Int.reduceToNat, Int.reduceLE, Int.reduceLT, Int.reduceBEq, Int.reduceBNe])
            refine Cl.here ⟨⟨at_, bs, i - 1, b, by simp, by simp, by omega, by omega, by omega, by omega, hbs, hb, by omega, by omega⟩, ?_⟩
            simp only [go_sem, Nat.reduceAdd, Nat.reduceSub, Nat.reduceMul, Nat.reduceEqDiff, Nat.reduceLT, Nat.reduceLeDiff, Nat.reduceBEq, reduceIte, reduceCtorEq, Int.reduceToNat, Int.reduceLE, Int.reduceLT, Int.reduceBEq, Int.reduceBNe]
            omega
        · (refine Cl.here ?_; simp only [go_sem, Nat.reduceAdd, Nat.reduceSub, Nat.reduceMul, Nat.reduceEqDiff, Nat.reduceLT, Nat.reduceLeDiff, Nat.reduceBEq, reduceIte, reduceCtorEq, Int.reduceToNat, Int.reduceLE, Int.reduceLT, Int.reduceBEq, Int.reduceBNe])
          refine ⟨by omega, ?_⟩
          (refine callD_pick [0, 15, 960, 480, 1] (pick_ok l hl _ (by simp) (by simp)) (by simp only [go_sem, Nat.reduceAdd, Nat.reduceSub, Nat.reduceMul, Nat.reduceEqDiff, Nat.reduceLT, Nat.reduceLeDiff, Nat.reduceBEq, reduceIte, reduceCtorEq, Int.reduceToNat, Int.reduceLE, Int.reduceLT, Int.reduceBEq, Int.reduceBNe]) rfl rfl rfl rfl rfl (by decide) (by omega) (by omega) ?_; rintro _ at_ _ _ ⟨z, hmem, rfl⟩; simp only [List.mem_cons, List.not_mem_nil, or_false] at hmem; simp only [go_sem, Nat.reduceAdd, Nat.reduceSub, Nat.reduceMul, Nat.reduceEqDiff, Nat.reduceLT, Nat.reduceLeDiff, Nat.reduceBEq, reduceIte, reduceCtorEq, Int.reduceToNat, Int.reduceLE, Int.reduceLT, Int.reduceBEq, Int.reduceBNe])
          have hz : 0 ≤ z ∧ z ≤ 960 := by omega
          clear hmem
          rw [wrap_i64 (by omega) (by omega)]
          (refine Cl.frz [some 0, some 1] [ 3] rfl rfl (by simp only [go_sem, Nat.reduceAdd, Nat.reduceSub, Nat.reduceMul, Nat.reduceEqDiff, Nat.reduceLT, Nat.reduceLeDiff, Nat.reduceBEq, reduceIte, reduceCtorEq, Int.reduceToNat, Int.reduceLE, Int.reduceLT, Int.reduceBEq, Int.reduceBNe] <;> rfl) ?_; simp only [go_sem, Nat.reduceAdd, Nat.reduceSub, Nat.reduceMul, Nat.reduceEqDiff, Nat.reduceLT, Nat.reduceLeDiff, Nat.reduceBEq, reduceIte, reduceCtorEq, Int.reduceToNat, Int.reduceLE, Int.reduceLT, Int.reduceBEq, Int.reduceBNe])
          (refine Cl.here ?_; simp only [go_sem, Nat.reduceAdd, Nat.reduceSub, Nat.reduceMul, Nat.reduceEqDiff, Nat.reduceLT, Nat.reduceLeDiff, Nat.reduceBEq, reduceIte, reduceCtorEq, Int.reduceToNat, Int.reduceLE, Int.reduceLT, Int.reduceBEq, Int.reduceBNe])
          rw [wrap_i64 (by omega) (by omega)]
          refine Cl.here ⟨⟨at_, ps ++ [⟨t, t + e, bs⟩], j - 1, t + e + z, by simp, rfl, by omega, by omega, by omega, by simp; omega, ?_, ?_, ?_, by omega, by omega⟩, ?_⟩
          · refine presOk_snoc hps ?_
            simp only [preOk, ivIn, Bool.and_eq_true, decide_eq_true_eq]
            exact ⟨⟨by omega, by omega⟩, hbs⟩
          · intro p hp
            simp only [List.mem_append, List.mem_singleton] at hp
            rcases hp with hp | rfl
            · exact hlen p hp
            · exact ⟨by simp only; omega, by simp only; omega, by simp only; omega, by simp only; omega⟩
          · rw [endP_snoc]; simp only; omega
          · simp only [go_sem, Nat.reduceAdd, Nat.reduceSub, Nat.reduceMul, Nat.reduceEqDiff, Nat.reduceLT, Nat.reduceLeDiff, Nat.reduceBEq, reduceIte, reduceCtorEq, Int.reduceToNat, Int.reduceLE, Int.reduceLT, Int.reduceBEq, Int.reduceBNe]
            omega
    · (refine Cl.here ?_; simp only [go_sem, Nat.reduceAdd, Nat.reduceSub, Nat.reduceMul, Nat.reduceEqDiff, Nat.reduceLT, Nat.reduceLeDiff, Nat.reduceBEq, reduceIte, reduceCtorEq, Int.reduceToNat, Int.reduceLE, Int.reduceLT, Int.reduceBEq, Int.reduceBNe])
      (refine Cl.here ?_; simp only [go_sem, Nat.reduceAdd, Nat.reduceSub, Nat.reduceMul, Nat.reduceEqDiff, Nat.reduceLT, Nat.reduceLeDiff, Nat.reduceBEq, reduceIte, reduceCtorEq, Int.reduceToNat, Int.reduceLE, Int.reduceLT, Int.reduceBEq, Int.reduceBNe])
      exact Cl.here ⟨at_, ps, rfl, rfl, by omega, by omega, by omega, hps, hlen⟩

end Go.Proofs.Ytjacobmkfkmdiaa
