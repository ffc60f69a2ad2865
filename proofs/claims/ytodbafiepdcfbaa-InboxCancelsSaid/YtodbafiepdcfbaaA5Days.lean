/- The generator's days of work. -/
import Derived.Test.YtodbafiepdcfbaaA5Ev
set_option linter.unusedSimpArgs false
set_option linter.unusedVariables false
set_option linter.unusedSectionVars false
namespace Go.Proofs.Ytodbafiepdcfbaa
open Go Go.Abs
set_option linter.unusedSimpArgs false
set_option linter.unusedVariables false

def tmOk (t : Int) : Prop := 29453760 ≤ t ∧ t ≤ 60000000
theorem set_mem {α : Type} {P : α → Prop} {l : List α} {i : Nat} {x : α} (h : ∀ y ∈ l, P y) (hx : P x) : ∀ y ∈ l.set i x, P y := by
  intro y hy
  rcases List.mem_or_eq_of_mem_set hy with h1 | h1
  · exact h y h1
  · subst h1; exact hx

theorem days_ok (l : List Int) (hl : TapeOk l) (n : Int) (hn0 : 0 ≤ n) (hn : n ≤ 10) (at_ : Int) (h0 : 0 ≤ at_) (h1 : at_ ≤ l.length) : AFn Try.prog 34 [.ref 0 1 0 0, .int .i64 n] [tp l at_]
    (fun v rs => ∃ (a : Int) (es : List Ev), v = .own 1 es.length 0 es.length ∧ rs = [tp l a, .live 64 7 (els es)] ∧ 0 ≤ a ∧ a ≤ l.length ∧ es.length ≤ 5 * n ∧ ∀ e ∈ es, evG e) := by
  refine afnW Try.func34 a34_ok (by simp [a34]) ?_
  unfold tp
  simp only [go_sem, Nat.reduceAdd, Nat.reduceSub, Nat.reduceMul, Nat.reduceEqDiff, Nat.reduceLT, Nat.reduceLeDiff, Nat.reduceBEq, reduceIte, reduceCtorEq, Int.reduceToNat, Int.reduceLE, Int.reduceLT, Int.reduceBEq, Int.reduceBNe, a34, a34r0, a34r1, a34r2, a34r3, a34r4, a34r5, a34r6, a34r7, a34r8, a34r9, a34r10, a34r11, a34r12, a34r13, a34r14, a34r15, a34r16, a34r17, a34r18, a34r19, a34r20, a34r21, a34r22, a34r23, a34r24, a34r25, a34r26, a34r27]
  repeat (refine Cl.here ?_; simp only [go_sem, Nat.reduceAdd, Nat.reduceSub, Nat.reduceMul, Nat.reduceEqDiff, Nat.reduceLT, Nat.reduceLeDiff, Nat.reduceBEq, reduceIte, reduceCtorEq, Int.reduceToNat, Int.reduceLE, Int.reduceLT, Int.reduceBEq, Int.reduceBNe])
  refine avcW_loop (fun env rows => ∃ (a : Int) (d : Nat) (es : List Ev), 0 ≤ a ∧ a ≤ l.length ∧ d ≤ n ∧ es.length ≤ 5 * d ∧ (∀ e ∈ es, evG e) ∧ env = [(0, .ref 0 1 0 0), (1, .int .i64 n), (5, .own 1 es.length 0 es.length), (6, .int .i64 (20 + 4 * d)), (7, .int .i64 d)] ∧ rows = [tapeRow 81 l a, .live 64 7 (els es)])
    (fun env _ => match slot env 7 with | .int _ j => (n - j).toNat | _ => 0) ?_ ?_
  · (refine Cl.ghost 5  64  7 rfl (Cl.norm [ 0, 1, 5, 6, 7] ?_); simp only [go_sem, Nat.reduceAdd, Nat.reduceSub, Nat.reduceMul, Nat.reduceEqDiff, Nat.reduceLT, Nat.reduceLeDiff, Nat.reduceBEq, reduceIte, reduceCtorEq, Int.reduceToNat, Int.reduceLE, Int.reduceLT, Int.reduceBEq, Int.reduceBNe])
    exact Cl.here ⟨at_, 0, [], by omega, by omega, by omega, by simp, by simp, rfl, rfl⟩
  clear h0 h1
  rintro env rows ⟨at_, d, es, h0, h1, hd, hel, hes, rfl, rfl⟩
  have hw1 : IntKind.i64.wrap ((d : Int) + 1) = ((d + 1 : Nat) : Int) := by rw [wrap_i64 (by omega) (by omega)]; omega
  simp only [go_sem, Nat.reduceAdd, Nat.reduceSub, Nat.reduceMul, Nat.reduceEqDiff, Nat.reduceLT, Nat.reduceLeDiff, Nat.reduceBEq, reduceIte, reduceCtorEq, Int.reduceToNat, Int.reduceLE, Int.reduceLT, Int.reduceBEq, Int.reduceBNe, a34, a34r0, a34r1, a34r2, a34r3, a34r4, a34r5, a34r6, a34r7, a34r8, a34r9, a34r10, a34r11, a34r12, a34r13, a34r14, a34r15, a34r16, a34r17, a34r18, a34r19, a34r20, a34r21, a34r22, a34r23, a34r24, a34r25, a34r26, a34r27]
  repeat (refine Cl.here ?_; simp only [go_sem, Nat.reduceAdd, Nat.reduceSub, Nat.reduceMul, Nat.reduceEqDiff, Nat.reduceLT, Nat.reduceLeDiff, Nat.reduceBEq, reduceIte, reduceCtorEq, Int.reduceToNat, Int.reduceLE, Int.reduceLT, Int.reduceBEq, Int.reduceBNe])
  refine condW_intro ?_ ?_ <;> intro hg <;> simp only [decide_eq_true_eq, decide_eq_false_iff_not, beq_iff_eq, beq_eq_false_iff_ne, bne_iff_ne, bne_eq_false_iff_eq, Bool.not_eq_true', Bool.not_eq_false', Int.not_lt, Int.not_le, ne_eq, Bool.and_eq_true, Bool.or_eq_true, Bool.or_eq_false_iff, Bool.and_eq_false_iff] at hg <;> simp only [go_sem, Nat.reduceAdd, Nat.reduceSub, Nat.reduceMul, Nat.reduceEqDiff, Nat.reduceLT, Nat.reduceLeDiff, Nat.reduceBEq, reduceIte, reduceCtorEq, Int.reduceToNat, Int.reduceLE, Int.reduceLT, Int.reduceBEq, Int.reduceBNe, a34, a34r0, a34r1, a34r2, a34r3, a34r4, a34r5, a34r6, a34r7, a34r8, a34r9, a34r10, a34r11, a34r12, a34r13, a34r14, a34r15, a34r16, a34r17, a34r18, a34r19, a34r20, a34r21, a34r22, a34r23, a34r24, a34r25, a34r26, a34r27]
  · repeat (refine Cl.here ?_; simp only [go_sem, Nat.reduceAdd, Nat.reduceSub, Nat.reduceMul, Nat.reduceEqDiff, Nat.reduceLT, Nat.reduceLeDiff, Nat.reduceBEq, reduceIte, reduceCtorEq, Int.reduceToNat, Int.reduceLE, Int.reduceLT, Int.reduceBEq, Int.reduceBNe])
    rw [wrap_i64 (x := (d : Int) * 1440) (by omega) (by omega), wrap_i64 (x := 29453760 + (d : Int) * 1440) (by omega) (by omega)]
    (refine callC_pick [480, 465, 1320, 360, 477] (pick_ok l hl _ (by simp) (by simp)) rfl rfl rfl rfl rfl (by decide) (by omega) (by omega) ?_; rintro _ at_ _ _ ⟨p, hmem, rfl⟩; simp only [List.mem_cons, List.not_mem_nil, or_false] at hmem; simp only [go_sem, Nat.reduceAdd, Nat.reduceSub, Nat.reduceMul, Nat.reduceEqDiff, Nat.reduceLT, Nat.reduceLeDiff, Nat.reduceBEq, reduceIte, reduceCtorEq, Int.reduceToNat, Int.reduceLE, Int.reduceLT, Int.reduceBEq, Int.reduceBNe])
    have hp : 0 ≤ p ∧ p ≤ 1320 := by omega
    clear hmem
    rw [wrap_i64 (x := 29453760 + (d : Int) * 1440 + p) (by omega) (by omega)]
    (refine callC_tape (next_ok l hl 7 (by omega)) rfl rfl (by omega) (by omega) ?_; rintro _ at_ _ _ ⟨ q, rfl, _, _⟩; simp only [go_sem, Nat.reduceAdd, Nat.reduceSub, Nat.reduceMul, Nat.reduceEqDiff, Nat.reduceLT, Nat.reduceLeDiff, Nat.reduceBEq, reduceIte, reduceCtorEq, Int.reduceToNat, Int.reduceLE, Int.reduceLT, Int.reduceBEq, Int.reduceBNe])
    rw [wrap_i64 (by omega) (by omega)]
    have hfr : tmOk (29453760 + (d : Int) * 1440 + p + q) ∧ 29453760 + (d : Int) * 1440 + p + q ≤ 40000000 := by unfold tmOk; omega
    generalize 29453760 + (d : Int) * 1440 + p + q = fr at hfr
    unfold tmOk at hfr
    repeat (refine Cl.here ?_; simp only [go_sem, Nat.reduceAdd, Nat.reduceSub, Nat.reduceMul, Nat.reduceEqDiff, Nat.reduceLT, Nat.reduceLeDiff, Nat.reduceBEq, reduceIte, reduceCtorEq, Int.reduceToNat, Int.reduceLE, Int.reduceLT, Int.reduceBEq, Int.reduceBNe])
    (refine callC_pick [480, 510, 540, 660, 300, 75] (pick_ok l hl _ (by simp) (by simp)) rfl rfl rfl rfl rfl (by decide) (by omega) (by omega) ?_; rintro _ at_ _ _ ⟨y, hmem, rfl⟩; simp only [List.mem_cons, List.not_mem_nil, or_false] at hmem; simp only [go_sem, Nat.reduceAdd, Nat.reduceSub, Nat.reduceMul, Nat.reduceEqDiff, Nat.reduceLT, Nat.reduceLeDiff, Nat.reduceBEq, reduceIte, reduceCtorEq, Int.reduceToNat, Int.reduceLE, Int.reduceLT, Int.reduceBEq, Int.reduceBNe])
    have hy : 0 ≤ y ∧ y ≤ 660 := by omega
    clear hmem
    rw [wrap_i64 (by omega) (by omega)]
    (refine Cl.tr [some 0, some 1] [] rfl rfl (by simp only [go_sem, Nat.reduceAdd, Nat.reduceSub, Nat.reduceMul, Nat.reduceEqDiff, Nat.reduceLT, Nat.reduceLeDiff, Nat.reduceBEq, reduceIte, reduceCtorEq, Int.reduceToNat, Int.reduceLE, Int.reduceLT, Int.reduceBEq, Int.reduceBNe] <;> rfl) ?_; simp only [go_sem, Nat.reduceAdd, Nat.reduceSub, Nat.reduceMul, Nat.reduceEqDiff, Nat.reduceLT, Nat.reduceLeDiff, Nat.reduceBEq, reduceIte, reduceCtorEq, Int.reduceToNat, Int.reduceLE, Int.reduceLT, Int.reduceBEq, Int.reduceBNe])
    (refine Cl.here ?_; simp only [go_sem, Nat.reduceAdd, Nat.reduceSub, Nat.reduceMul, Nat.reduceEqDiff, Nat.reduceLT, Nat.reduceLeDiff, Nat.reduceBEq, reduceIte, reduceCtorEq, Int.reduceToNat, Int.reduceLE, Int.reduceLT, Int.reduceBEq, Int.reduceBNe])
    (refine Cl.here ?_; simp only [go_sem, Nat.reduceAdd, Nat.reduceSub, Nat.reduceMul, Nat.reduceEqDiff, Nat.reduceLT, Nat.reduceLeDiff, Nat.reduceBEq, reduceIte, reduceCtorEq, Int.reduceToNat, Int.reduceLE, Int.reduceLT, Int.reduceBEq, Int.reduceBNe])
    refine Cl.here (avcW_seq_cut (fun env rows => ∃ (a : Int) (T K : List Int) (rest : List Row), 0 ≤ a ∧ a ≤ l.length ∧ K.length = T.length ∧ T.length ≤ 4 ∧ (∀ t ∈ T, tmOk t) ∧ (∀ k ∈ K, 1 ≤ k ∧ k ≤ 4) ∧ norm [0, 1, 5, 6, 7, 8, 10, 11] env = [(0, .ref 0 1 0 0), (1, .int .i64 n), (5, .own 1 es.length 0 es.length), (6, .int .i64 (20 + 4 * d)), (7, .int .i64 d), (8, .int .i64 fr), (10, .own 2 T.length 0 T.length), (11, .own 3 T.length 0 T.length)] ∧ rows = tapeRow 81 l a :: .live 64 7 (els es) :: .live 3 1 (numsE .i64 T) :: .live 3 1 (numsE .i64 K) :: rest) ?_ ?_)
    · simp only [go_sem, Nat.reduceAdd, Nat.reduceSub, Nat.reduceMul, Nat.reduceEqDiff, Nat.reduceLT, Nat.reduceLeDiff, Nat.reduceBEq, reduceIte, reduceCtorEq, Int.reduceToNat, Int.reduceLE, Int.reduceLT, Int.reduceBEq, Int.reduceBNe]
      (refine callC_tape (next_ok l hl 2 (by omega)) rfl rfl (by omega) (by omega) ?_; rintro _ at_ _ _ ⟨ b, rfl, _, _⟩; simp only [go_sem, Nat.reduceAdd, Nat.reduceSub, Nat.reduceMul, Nat.reduceEqDiff, Nat.reduceLT, Nat.reduceLeDiff, Nat.reduceBEq, reduceIte, reduceCtorEq, Int.reduceToNat, Int.reduceLE, Int.reduceLT, Int.reduceBEq, Int.reduceBNe])
      repeat (refine Cl.here ?_; simp only [go_sem, Nat.reduceAdd, Nat.reduceSub, Nat.reduceMul, Nat.reduceEqDiff, Nat.reduceLT, Nat.reduceLeDiff, Nat.reduceBEq, reduceIte, reduceCtorEq, Int.reduceToNat, Int.reduceLE, Int.reduceLT, Int.reduceBEq, Int.reduceBNe])
      refine condW_intro ?_ ?_ <;> intro hg2 <;> simp only [decide_eq_true_eq, decide_eq_false_iff_not, beq_iff_eq, beq_eq_false_iff_ne, bne_iff_ne, bne_eq_false_iff_eq, Bool.not_eq_true', Bool.not_eq_false', Int.not_lt, Int.not_le, ne_eq, Bool.and_eq_true, Bool.or_eq_true, Bool.or_eq_false_iff, Bool.and_eq_false_iff] at hg2 <;> simp only [go_sem, Nat.reduceAdd, Nat.reduceSub, Nat.reduceMul, Nat.reduceEqDiff, Nat.reduceLT, Nat.reduceLeDiff, Nat.reduceBEq, reduceIte, reduceCtorEq, Int.reduceToNat, Int.reduceLE, Int.reduceLT, Int.reduceBEq, Int.reduceBNe, a34, a34r0, a34r1, a34r2, a34r3, a34r4, a34r5, a34r6, a34r7, a34r8, a34r9, a34r10, a34r11, a34r12, a34r13, a34r14, a34r15, a34r16, a34r17, a34r18, a34r19, a34r20, a34r21, a34r22, a34r23, a34r24, a34r25, a34r26, a34r27]
      · repeat (refine Cl.here ?_; simp only [go_sem, Nat.reduceAdd, Nat.reduceSub, Nat.reduceMul, Nat.reduceEqDiff, Nat.reduceLT, Nat.reduceLeDiff, Nat.reduceBEq, reduceIte, reduceCtorEq, Int.reduceToNat, Int.reduceLE, Int.reduceLT, Int.reduceBEq, Int.reduceBNe])
        (refine callC_pick [120, 240, 60] (pick_ok l hl _ (by simp) (by simp)) rfl rfl rfl rfl rfl (by decide) (by omega) (by omega) ?_; rintro _ at_ _ _ ⟨u, hmem, rfl⟩; simp only [List.mem_cons, List.not_mem_nil, or_false] at hmem; simp only [go_sem, Nat.reduceAdd, Nat.reduceSub, Nat.reduceMul, Nat.reduceEqDiff, Nat.reduceLT, Nat.reduceLeDiff, Nat.reduceBEq, reduceIte, reduceCtorEq, Int.reduceToNat, Int.reduceLE, Int.reduceLT, Int.reduceBEq, Int.reduceBNe])
        have hu : 0 ≤ u ∧ u ≤ 240 := by omega
        clear hmem
        rw [wrap_i64 (by omega) (by omega)]
        repeat (refine Cl.here ?_; simp only [go_sem, Nat.reduceAdd, Nat.reduceSub, Nat.reduceMul, Nat.reduceEqDiff, Nat.reduceLT, Nat.reduceLeDiff, Nat.reduceBEq, reduceIte, reduceCtorEq, Int.reduceToNat, Int.reduceLE, Int.reduceLT, Int.reduceBEq, Int.reduceBNe])
        (refine callC_pick [30, 15, 45] (pick_ok l hl _ (by simp) (by simp)) rfl rfl rfl rfl rfl (by decide) (by omega) (by omega) ?_; rintro _ at_ _ _ ⟨w, hmem, rfl⟩; simp only [List.mem_cons, List.not_mem_nil, or_false] at hmem; simp only [go_sem, Nat.reduceAdd, Nat.reduceSub, Nat.reduceMul, Nat.reduceEqDiff, Nat.reduceLT, Nat.reduceLeDiff, Nat.reduceBEq, reduceIte, reduceCtorEq, Int.reduceToNat, Int.reduceLE, Int.reduceLT, Int.reduceBEq, Int.reduceBNe])
        have hw : 0 ≤ w ∧ w ≤ 45 := by omega
        clear hmem
        rw [wrap_i64 (by omega) (by omega)]
        repeat (refine Cl.here ?_; simp only [go_sem, Nat.reduceAdd, Nat.reduceSub, Nat.reduceMul, Nat.reduceEqDiff, Nat.reduceLT, Nat.reduceLeDiff, Nat.reduceBEq, reduceIte, reduceCtorEq, Int.reduceToNat, Int.reduceLE, Int.reduceLT, Int.reduceBEq, Int.reduceBNe])
        refine ⟨at_, [fr, fr + y, fr + u, fr + u + w], [1, 2, 3, 4], _, by omega, by omega, rfl, by simp, ?_, ?_, rfl, rfl⟩
        · intro t ht
          unfold tmOk
          simp only [List.mem_cons, List.not_mem_nil, or_false] at ht
          omega
        · intro t ht
          simp only [List.mem_cons, List.not_mem_nil, or_false] at ht
          omega
      · refine ⟨at_, [fr, fr + y], [1, 2], [], by omega, by omega, rfl, by simp, ?_, ?_, rfl, rfl⟩
        · intro t ht
          unfold tmOk
          simp only [List.mem_cons, List.not_mem_nil, or_false] at ht
          omega
        · intro t ht
          simp only [List.mem_cons, List.not_mem_nil, or_false] at ht
          omega
    clear h0 h1
    rintro env rows ⟨at_, T, K, rest, h0, h1, hKT, hT4, hT, hK, hnm, rfl⟩
    refine Cl.norm [0, 1, 5, 6, 7, 8, 10, 11] ?_
    rw [hnm]
    clear hnm
    refine Cl.frz [some 0, some 1] [2, 3] rfl rfl (by simp only [go_sem, Nat.reduceAdd, Nat.reduceSub, Nat.reduceMul, Nat.reduceEqDiff, Nat.reduceLT, Nat.reduceLeDiff, Nat.reduceBEq, reduceIte, reduceCtorEq, Int.reduceToNat, Int.reduceLE, Int.reduceLT, Int.reduceBEq, Int.reduceBNe] <;> rfl) ?_
    simp only [go_sem, Nat.reduceAdd, Nat.reduceSub, Nat.reduceMul, Nat.reduceEqDiff, Nat.reduceLT, Nat.reduceLeDiff, Nat.reduceBEq, reduceIte, reduceCtorEq, Int.reduceToNat, Int.reduceLE, Int.reduceLT, Int.reduceBEq, Int.reduceBNe, hKT]
    have htk : K.take T.length = K := List.take_of_length_le (by omega)
    rw [htk]
    repeat (refine Cl.here ?_; simp only [go_sem, Nat.reduceAdd, Nat.reduceSub, Nat.reduceMul, Nat.reduceEqDiff, Nat.reduceLT, Nat.reduceLeDiff, Nat.reduceBEq, reduceIte, reduceCtorEq, Int.reduceToNat, Int.reduceLE, Int.reduceLT, Int.reduceBEq, Int.reduceBNe])
    refine avcW_loop (fun env rows => ∃ (a : Int) (j : Nat) (es2 : List Ev), 0 ≤ a ∧ a ≤ l.length ∧ j ≤ T.length ∧ es2.length ≤ 5 * d + j ∧ (∀ e ∈ es2, evG e) ∧ env = [(0, .ref 0 1 0 0), (1, .int .i64 n), (5, .own 1 es2.length 0 es2.length), (6, .int .i64 (20 + 4 * d)), (7, .int .i64 d), (8, .int .i64 fr), (10, .pure 1 (numsE .i64 T)), (11, .pure 1 (numsE .i64 K)), (13, .int .i64 j)] ∧ rows = [tapeRow 81 l a, .live 64 7 (els es2)])
      (fun env _ => match slot env 13 with | .int _ j => (T.length - j).toNat | _ => 0) ?_ ?_
    · exact Cl.here ⟨at_, 0, es, by omega, by omega, by omega, by omega, hes, rfl, rfl⟩
    clear h0 h1 hes hel es
    rintro env rows ⟨at_, j, es, h0, h1, hj, hel, hes, rfl, rfl⟩
    have hwj : IntKind.i64.wrap ((j : Int) + 1) = ((j + 1 : Nat) : Int) := by rw [wrap_i64 (by omega) (by omega)]; omega
    simp only [go_sem, Nat.reduceAdd, Nat.reduceSub, Nat.reduceMul, Nat.reduceEqDiff, Nat.reduceLT, Nat.reduceLeDiff, Nat.reduceBEq, reduceIte, reduceCtorEq, Int.reduceToNat, Int.reduceLE, Int.reduceLT, Int.reduceBEq, Int.reduceBNe, a34, a34r0, a34r1, a34r2, a34r3, a34r4, a34r5, a34r6, a34r7, a34r8, a34r9, a34r10, a34r11, a34r12, a34r13, a34r14, a34r15, a34r16, a34r17, a34r18, a34r19, a34r20, a34r21, a34r22, a34r23, a34r24, a34r25, a34r26, a34r27]
    repeat (refine Cl.here ?_; simp only [go_sem, Nat.reduceAdd, Nat.reduceSub, Nat.reduceMul, Nat.reduceEqDiff, Nat.reduceLT, Nat.reduceLeDiff, Nat.reduceBEq, reduceIte, reduceCtorEq, Int.reduceToNat, Int.reduceLE, Int.reduceLT, Int.reduceBEq, Int.reduceBNe])
    refine condW_intro ?_ ?_ <;> intro hg2 <;> simp only [decide_eq_true_eq, decide_eq_false_iff_not, beq_iff_eq, beq_eq_false_iff_ne, bne_iff_ne, bne_eq_false_iff_eq, Bool.not_eq_true', Bool.not_eq_false', Int.not_lt, Int.not_le, ne_eq, Bool.and_eq_true, Bool.or_eq_true, Bool.or_eq_false_iff, Bool.and_eq_false_iff] at hg2 <;> simp only [go_sem, Nat.reduceAdd, Nat.reduceSub, Nat.reduceMul, Nat.reduceEqDiff, Nat.reduceLT, Nat.reduceLeDiff, Nat.reduceBEq, reduceIte, reduceCtorEq, Int.reduceToNat, Int.reduceLE, Int.reduceLT, Int.reduceBEq, Int.reduceBNe, a34, a34r0, a34r1, a34r2, a34r3, a34r4, a34r5, a34r6, a34r7, a34r8, a34r9, a34r10, a34r11, a34r12, a34r13, a34r14, a34r15, a34r16, a34r17, a34r18, a34r19, a34r20, a34r21, a34r22, a34r23, a34r24, a34r25, a34r26, a34r27]
    · (refine Cl.here ?_; simp only [go_sem, Nat.reduceAdd, Nat.reduceSub, Nat.reduceMul, Nat.reduceEqDiff, Nat.reduceLT, Nat.reduceLeDiff, Nat.reduceBEq, reduceIte, reduceCtorEq, Int.reduceToNat, Int.reduceLE, Int.reduceLT, Int.reduceBEq, Int.reduceBNe])
      (refine callC_tape (next_ok l hl 14 (by omega)) rfl rfl (by omega) (by omega) ?_; rintro _ at_ _ _ ⟨ b, rfl, _, _⟩; simp only [go_sem, Nat.reduceAdd, Nat.reduceSub, Nat.reduceMul, Nat.reduceEqDiff, Nat.reduceLT, Nat.reduceLeDiff, Nat.reduceBEq, reduceIte, reduceCtorEq, Int.reduceToNat, Int.reduceLE, Int.reduceLT, Int.reduceBEq, Int.reduceBNe])
      (refine Cl.here ?_; simp only [go_sem, Nat.reduceAdd, Nat.reduceSub, Nat.reduceMul, Nat.reduceEqDiff, Nat.reduceLT, Nat.reduceLeDiff, Nat.reduceBEq, reduceIte, reduceCtorEq, Int.reduceToNat, Int.reduceLE, Int.reduceLT, Int.reduceBEq, Int.reduceBNe])
      refine condW_intro ?_ ?_ <;> intro hg3 <;> simp only [decide_eq_true_eq, decide_eq_false_iff_not, beq_iff_eq, beq_eq_false_iff_ne, bne_iff_ne, bne_eq_false_iff_eq, Bool.not_eq_true', Bool.not_eq_false', Int.not_lt, Int.not_le, ne_eq, Bool.and_eq_true, Bool.or_eq_true, Bool.or_eq_false_iff, Bool.and_eq_false_iff] at hg3 <;> simp only [go_sem, Nat.reduceAdd, Nat.reduceSub, Nat.reduceMul, Nat.reduceEqDiff, Nat.reduceLT, Nat.reduceLeDiff, Nat.reduceBEq, reduceIte, reduceCtorEq, Int.reduceToNat, Int.reduceLE, Int.reduceLT, Int.reduceBEq, Int.reduceBNe, a34, a34r0, a34r1, a34r2, a34r3, a34r4, a34r5, a34r6, a34r7, a34r8, a34r9, a34r10, a34r11, a34r12, a34r13, a34r14, a34r15, a34r16, a34r17, a34r18, a34r19, a34r20, a34r21, a34r22, a34r23, a34r24, a34r25, a34r26, a34r27]
      · repeat (refine Cl.here ?_; simp only [go_sem, Nat.reduceAdd, Nat.reduceSub, Nat.reduceMul, Nat.reduceEqDiff, Nat.reduceLT, Nat.reduceLeDiff, Nat.reduceBEq, reduceIte, reduceCtorEq, Int.reduceToNat, Int.reduceLE, Int.reduceLT, Int.reduceBEq, Int.reduceBNe])
        simp only [go_sem, Nat.reduceAdd, Nat.reduceSub, Nat.reduceMul, Nat.reduceEqDiff, Nat.reduceLT, Nat.reduceLeDiff, Nat.reduceBEq, reduceIte, reduceCtorEq, Int.reduceToNat, Int.reduceLE, Int.reduceLT, Int.reduceBEq, Int.reduceBNe, hwj]
        exact ⟨⟨at_, j + 1, es, by omega, by omega, by omega, by omega, hes, rfl, rfl⟩, by omega⟩
      · have hlt : j < T.length := by omega
        have hlk : j < K.length := by omega
        have z0 : (0 : Int) ≤ j := by omega
        have z1 : (j : Int) < T.length := by omega
        have z2 : (j : Int) < K.length := by omega
        have gT : (numsE .i64 T).getD j [] = [.int .i64 T[j]] := by rw [numsE_getD hlt, List.getD_eq_getElem?_getD, List.getElem?_eq_getElem hlt, Option.getD_some]
        have gK : (numsE .i64 K).getD j [] = [.int .i64 K[j]] := by rw [numsE_getD hlk, List.getD_eq_getElem?_getD, List.getElem?_eq_getElem hlk, Option.getD_some]
        have hTj := hT _ (List.getElem_mem hlt)
        have hKj := hK _ (List.getElem_mem hlk)
        generalize T[j] = tt at *
        generalize K[j] = kk at *
        unfold tmOk at hTj
        (refine Cl.here ?_; simp only [go_sem, Nat.reduceAdd, Nat.reduceSub, Nat.reduceMul, Nat.reduceEqDiff, Nat.reduceLT, Nat.reduceLeDiff, Nat.reduceBEq, reduceIte, reduceCtorEq, Int.reduceToNat, Int.reduceLE, Int.reduceLT, Int.reduceBEq, Int.reduceBNe])
        simp only [go_sem, Nat.reduceAdd, Nat.reduceSub, Nat.reduceMul, Nat.reduceEqDiff, Nat.reduceLT, Nat.reduceLeDiff, Nat.reduceBEq, reduceIte, reduceCtorEq, Int.reduceToNat, Int.reduceLE, Int.reduceLT, Int.reduceBEq, Int.reduceBNe, z0, z1, z2, gT, gK]
        rw [wrap_i64 (x := 20 + 4 * (d : Int) + j) (by omega) (by omega)]
        refine ⟨by omega, ?_⟩
        rw [ev_snoc]
        (refine Cl.tr [some 0, some 1] [] rfl rfl (by simp only [go_sem, Nat.reduceAdd, Nat.reduceSub, Nat.reduceMul, Nat.reduceEqDiff, Nat.reduceLT, Nat.reduceLeDiff, Nat.reduceBEq, reduceIte, reduceCtorEq, Int.reduceToNat, Int.reduceLE, Int.reduceLT, Int.reduceBEq, Int.reduceBNe] <;> rfl) ?_; simp only [go_sem, Nat.reduceAdd, Nat.reduceSub, Nat.reduceMul, Nat.reduceEqDiff, Nat.reduceLT, Nat.reduceLeDiff, Nat.reduceBEq, reduceIte, reduceCtorEq, Int.reduceToNat, Int.reduceLE, Int.reduceLT, Int.reduceBEq, Int.reduceBNe])
        repeat (refine Cl.here ?_; simp only [go_sem, Nat.reduceAdd, Nat.reduceSub, Nat.reduceMul, Nat.reduceEqDiff, Nat.reduceLT, Nat.reduceLeDiff, Nat.reduceBEq, reduceIte, reduceCtorEq, Int.reduceToNat, Int.reduceLE, Int.reduceLT, Int.reduceBEq, Int.reduceBNe])
        simp only [go_sem, Nat.reduceAdd, Nat.reduceSub, Nat.reduceMul, Nat.reduceEqDiff, Nat.reduceLT, Nat.reduceLeDiff, Nat.reduceBEq, reduceIte, reduceCtorEq, Int.reduceToNat, Int.reduceLE, Int.reduceLT, Int.reduceBEq, Int.reduceBNe, hwj]
        refine ⟨⟨at_, j + 1, es ++ [⟨2, 20 + 4 * d + j, 1, tt, kk, 0, 0⟩], by omega, by omega, by omega, by simp; omega, ?_, by simp, rfl⟩, by omega⟩
        intro e he
        simp only [List.mem_append, List.mem_singleton] at he
        rcases he with he | rfl
        · exact hes e he
        · simp only [evG, vEv, vKey, and_true]; omega
    · refine Cl.here (avcW_seq_cut (fun env rows => ∃ (a : Int) (es2 : List Ev) (rest : List Row), 0 ≤ a ∧ a ≤ l.length ∧ es2.length ≤ 5 * d + 5 ∧ (∀ e ∈ es2, evG e) ∧ norm [0, 1, 5, 6, 7] env = [(0, .ref 0 1 0 0), (1, .int .i64 n), (5, .own 1 es2.length 0 es2.length), (6, .int .i64 (20 + 4 * d)), (7, .int .i64 d)] ∧ rows = tapeRow 81 l a :: .live 64 7 (els es2) :: rest) ?_ ?_)
      · simp only [go_sem, Nat.reduceAdd, Nat.reduceSub, Nat.reduceMul, Nat.reduceEqDiff, Nat.reduceLT, Nat.reduceLeDiff, Nat.reduceBEq, reduceIte, reduceCtorEq, Int.reduceToNat, Int.reduceLE, Int.reduceLT, Int.reduceBEq, Int.reduceBNe]
        (refine callC_tape (next_ok l hl 6 (by omega)) rfl rfl (by omega) (by omega) ?_; rintro _ at_ _ _ ⟨ b, rfl, _, _⟩; simp only [go_sem, Nat.reduceAdd, Nat.reduceSub, Nat.reduceMul, Nat.reduceEqDiff, Nat.reduceLT, Nat.reduceLeDiff, Nat.reduceBEq, reduceIte, reduceCtorEq, Int.reduceToNat, Int.reduceLE, Int.reduceLT, Int.reduceBEq, Int.reduceBNe])
        repeat (refine Cl.here ?_; simp only [go_sem, Nat.reduceAdd, Nat.reduceSub, Nat.reduceMul, Nat.reduceEqDiff, Nat.reduceLT, Nat.reduceLeDiff, Nat.reduceBEq, reduceIte, reduceCtorEq, Int.reduceToNat, Int.reduceLE, Int.reduceLT, Int.reduceBEq, Int.reduceBNe])
        refine condW_intro ?_ ?_ <;> intro hg3 <;> simp only [decide_eq_true_eq, decide_eq_false_iff_not, beq_iff_eq, beq_eq_false_iff_ne, bne_iff_ne, bne_eq_false_iff_eq, Bool.not_eq_true', Bool.not_eq_false', Int.not_lt, Int.not_le, ne_eq, Bool.and_eq_true, Bool.or_eq_true, Bool.or_eq_false_iff, Bool.and_eq_false_iff] at hg3 <;> simp only [go_sem, Nat.reduceAdd, Nat.reduceSub, Nat.reduceMul, Nat.reduceEqDiff, Nat.reduceLT, Nat.reduceLeDiff, Nat.reduceBEq, reduceIte, reduceCtorEq, Int.reduceToNat, Int.reduceLE, Int.reduceLT, Int.reduceBEq, Int.reduceBNe, a34, a34r0, a34r1, a34r2, a34r3, a34r4, a34r5, a34r6, a34r7, a34r8, a34r9, a34r10, a34r11, a34r12, a34r13, a34r14, a34r15, a34r16, a34r17, a34r18, a34r19, a34r20, a34r21, a34r22, a34r23, a34r24, a34r25, a34r26, a34r27]
        · repeat (refine Cl.here ?_; simp only [go_sem, Nat.reduceAdd, Nat.reduceSub, Nat.reduceMul, Nat.reduceEqDiff, Nat.reduceLT, Nat.reduceLeDiff, Nat.reduceBEq, reduceIte, reduceCtorEq, Int.reduceToNat, Int.reduceLE, Int.reduceLT, Int.reduceBEq, Int.reduceBNe])
          rw [wrap_i64 (by omega) (by omega)]
          (refine callC_pick [6, 5] (pick_ok l hl _ (by simp) (by simp)) rfl rfl rfl rfl rfl (by decide) (by omega) (by omega) ?_; rintro _ at_ _ _ ⟨u, hmem, rfl⟩; simp only [List.mem_cons, List.not_mem_nil, or_false] at hmem; simp only [go_sem, Nat.reduceAdd, Nat.reduceSub, Nat.reduceMul, Nat.reduceEqDiff, Nat.reduceLT, Nat.reduceLeDiff, Nat.reduceBEq, reduceIte, reduceCtorEq, Int.reduceToNat, Int.reduceLE, Int.reduceLT, Int.reduceBEq, Int.reduceBNe])
          refine ⟨by omega, ?_⟩
          rw [ev_snoc]
          repeat (refine Cl.here ?_; simp only [go_sem, Nat.reduceAdd, Nat.reduceSub, Nat.reduceMul, Nat.reduceEqDiff, Nat.reduceLT, Nat.reduceLeDiff, Nat.reduceBEq, reduceIte, reduceCtorEq, Int.reduceToNat, Int.reduceLE, Int.reduceLT, Int.reduceBEq, Int.reduceBNe])
          refine ⟨at_, es ++ [⟨3, 20 + 4 * d, 1, fr + 10, u, 2, 20 + 4 * d⟩], _, by omega, by omega, by simp; omega, ?_, by simp, rfl⟩
          intro e he
          simp only [List.mem_append, List.mem_singleton] at he
          rcases he with he | rfl
          · exact hes e he
          · simp only [evG, vEv, vKey, and_true]; omega
        · exact ⟨at_, es, [], by omega, by omega, by omega, hes, rfl, rfl⟩
      clear h0 h1 hes hel es
      rintro env rows ⟨at_, es, rest, h0, h1, hel, hes, hnm, rfl⟩
      refine Cl.norm [0, 1, 5, 6, 7] ?_
      rw [hnm]
      clear hnm
      refine Cl.tr [some 0, some 1] [] rfl rfl (by simp only [go_sem, Nat.reduceAdd, Nat.reduceSub, Nat.reduceMul, Nat.reduceEqDiff, Nat.reduceLT, Nat.reduceLeDiff, Nat.reduceBEq, reduceIte, reduceCtorEq, Int.reduceToNat, Int.reduceLE, Int.reduceLT, Int.reduceBEq, Int.reduceBNe] <;> rfl) ?_
      simp only [go_sem, Nat.reduceAdd, Nat.reduceSub, Nat.reduceMul, Nat.reduceEqDiff, Nat.reduceLT, Nat.reduceLeDiff, Nat.reduceBEq, reduceIte, reduceCtorEq, Int.reduceToNat, Int.reduceLE, Int.reduceLT, Int.reduceBEq, Int.reduceBNe]
      repeat (refine Cl.here ?_; simp only [go_sem, Nat.reduceAdd, Nat.reduceSub, Nat.reduceMul, Nat.reduceEqDiff, Nat.reduceLT, Nat.reduceLeDiff, Nat.reduceBEq, reduceIte, reduceCtorEq, Int.reduceToNat, Int.reduceLE, Int.reduceLT, Int.reduceBEq, Int.reduceBNe])
      rw [wrap_i64 (x := 20 + 4 * (d : Int) + 4) (by omega) (by omega)]
      simp only [go_sem, Nat.reduceAdd, Nat.reduceSub, Nat.reduceMul, Nat.reduceEqDiff, Nat.reduceLT, Nat.reduceLeDiff, Nat.reduceBEq, reduceIte, reduceCtorEq, Int.reduceToNat, Int.reduceLE, Int.reduceLT, Int.reduceBEq, Int.reduceBNe, hw1]
      refine ⟨⟨at_, d + 1, es, by omega, by omega, by omega, by omega, hes, ?_, rfl⟩, by omega⟩
      simp
      omega
  · repeat (refine Cl.here ?_; simp only [go_sem, Nat.reduceAdd, Nat.reduceSub, Nat.reduceMul, Nat.reduceEqDiff, Nat.reduceLT, Nat.reduceLeDiff, Nat.reduceBEq, reduceIte, reduceCtorEq, Int.reduceToNat, Int.reduceLE, Int.reduceLT, Int.reduceBEq, Int.reduceBNe])
    refine avcW_loop (fun env rows => ∃ (a : Int) (j : Int) (es2 : List Ev), 0 ≤ a ∧ a ≤ l.length ∧ -1 ≤ j ∧ j < es2.length ∧ es2.length ≤ 5 * n ∧ (∀ e ∈ es2, evG e) ∧ env = [(0, .ref 0 1 0 0), (5, .own 1 es2.length 0 es2.length), (14, .int .i64 j)] ∧ rows = [tapeRow 81 l a, .live 64 7 (els es2)])
      (fun env _ => match slot env 14 with | .int _ j => j.toNat | _ => 0) ?_ ?_
    · rw [wrap_i64 (by omega) (by omega)]
      exact Cl.here ⟨at_, es.length - 1, es, by omega, by omega, by omega, by omega, by omega, hes, rfl, rfl⟩
    clear h0 h1 hes hel es
    rintro env rows ⟨at_, j, es, h0, h1, hj0, hj, hel, hes, rfl, rfl⟩
    simp only [go_sem, Nat.reduceAdd, Nat.reduceSub, Nat.reduceMul, Nat.reduceEqDiff, Nat.reduceLT, Nat.reduceLeDiff, Nat.reduceBEq, reduceIte, reduceCtorEq, Int.reduceToNat, Int.reduceLE, Int.reduceLT, Int.reduceBEq, Int.reduceBNe, a34, a34r0, a34r1, a34r2, a34r3, a34r4, a34r5, a34r6, a34r7, a34r8, a34r9, a34r10, a34r11, a34r12, a34r13, a34r14, a34r15, a34r16, a34r17, a34r18, a34r19, a34r20, a34r21, a34r22, a34r23, a34r24, a34r25, a34r26, a34r27]
    repeat (refine Cl.here ?_; simp only [go_sem, Nat.reduceAdd, Nat.reduceSub, Nat.reduceMul, Nat.reduceEqDiff, Nat.reduceLT, Nat.reduceLeDiff, Nat.reduceBEq, reduceIte, reduceCtorEq, Int.reduceToNat, Int.reduceLE, Int.reduceLT, Int.reduceBEq, Int.reduceBNe])
    refine condW_intro ?_ ?_ <;> intro hg2 <;> simp only [decide_eq_true_eq, decide_eq_false_iff_not, beq_iff_eq, beq_eq_false_iff_ne, bne_iff_ne, bne_eq_false_iff_eq, Bool.not_eq_true', Bool.not_eq_false', Int.not_lt, Int.not_le, ne_eq, Bool.and_eq_true, Bool.or_eq_true, Bool.or_eq_false_iff, Bool.and_eq_false_iff] at hg2 <;> simp only [go_sem, Nat.reduceAdd, Nat.reduceSub, Nat.reduceMul, Nat.reduceEqDiff, Nat.reduceLT, Nat.reduceLeDiff, Nat.reduceBEq, reduceIte, reduceCtorEq, Int.reduceToNat, Int.reduceLE, Int.reduceLT, Int.reduceBEq, Int.reduceBNe, a34, a34r0, a34r1, a34r2, a34r3, a34r4, a34r5, a34r6, a34r7, a34r8, a34r9, a34r10, a34r11, a34r12, a34r13, a34r14, a34r15, a34r16, a34r17, a34r18, a34r19, a34r20, a34r21, a34r22, a34r23, a34r24, a34r25, a34r26, a34r27]
    · repeat (refine Cl.here ?_; simp only [go_sem, Nat.reduceAdd, Nat.reduceSub, Nat.reduceMul, Nat.reduceEqDiff, Nat.reduceLT, Nat.reduceLeDiff, Nat.reduceBEq, reduceIte, reduceCtorEq, Int.reduceToNat, Int.reduceLE, Int.reduceLT, Int.reduceBEq, Int.reduceBNe])
      (refine callC_tape (next_ok l hl 3 (by omega)) rfl rfl (by omega) (by omega) ?_; rintro _ at_ _ _ ⟨ b, rfl, _, _⟩; simp only [go_sem, Nat.reduceAdd, Nat.reduceSub, Nat.reduceMul, Nat.reduceEqDiff, Nat.reduceLT, Nat.reduceLeDiff, Nat.reduceBEq, reduceIte, reduceCtorEq, Int.reduceToNat, Int.reduceLE, Int.reduceLT, Int.reduceBEq, Int.reduceBNe])
      repeat (refine Cl.here ?_; simp only [go_sem, Nat.reduceAdd, Nat.reduceSub, Nat.reduceMul, Nat.reduceEqDiff, Nat.reduceLT, Nat.reduceLeDiff, Nat.reduceBEq, reduceIte, reduceCtorEq, Int.reduceToNat, Int.reduceLE, Int.reduceLT, Int.reduceBEq, Int.reduceBNe])
      refine condW_intro ?_ ?_ <;> intro hg3 <;> simp only [decide_eq_true_eq, decide_eq_false_iff_not, beq_iff_eq, beq_eq_false_iff_ne, bne_iff_ne, bne_eq_false_iff_eq, Bool.not_eq_true', Bool.not_eq_false', Int.not_lt, Int.not_le, ne_eq, Bool.and_eq_true, Bool.or_eq_true, Bool.or_eq_false_iff, Bool.and_eq_false_iff] at hg3 <;> simp only [go_sem, Nat.reduceAdd, Nat.reduceSub, Nat.reduceMul, Nat.reduceEqDiff, Nat.reduceLT, Nat.reduceLeDiff, Nat.reduceBEq, reduceIte, reduceCtorEq, Int.reduceToNat, Int.reduceLE, Int.reduceLT, Int.reduceBEq, Int.reduceBNe, a34, a34r0, a34r1, a34r2, a34r3, a34r4, a34r5, a34r6, a34r7, a34r8, a34r9, a34r10, a34r11, a34r12, a34r13, a34r14, a34r15, a34r16, a34r17, a34r18, a34r19, a34r20, a34r21, a34r22, a34r23, a34r24, a34r25, a34r26, a34r27]
      · repeat (refine Cl.here ?_; simp only [go_sem, Nat.reduceAdd, Nat.reduceSub, Nat.reduceMul, Nat.reduceEqDiff, Nat.reduceLT, Nat.reduceLeDiff, Nat.reduceBEq, reduceIte, reduceCtorEq, Int.reduceToNat, Int.reduceLE, Int.reduceLT, Int.reduceBEq, Int.reduceBNe])
        rw [wrap_i64 (by omega) (by omega)]
        (refine callC_tape (next_ok l hl (j + 1) (by omega)) rfl rfl (by omega) (by omega) ?_; rintro _ at_ _ _ ⟨ k, rfl, _, _⟩; simp only [go_sem, Nat.reduceAdd, Nat.reduceSub, Nat.reduceMul, Nat.reduceEqDiff, Nat.reduceLT, Nat.reduceLeDiff, Nat.reduceBEq, reduceIte, reduceCtorEq, Int.reduceToNat, Int.reduceLE, Int.reduceLT, Int.reduceBEq, Int.reduceBNe])
        obtain ⟨j, rfl⟩ : ∃ q : Nat, j = q := ⟨j.toNat, by omega⟩
        obtain ⟨k, rfl⟩ : ∃ q : Nat, k = q := ⟨k.toNat, by omega⟩
        have hjl : j < es.length := by omega
        have hkl : k < es.length := by omega
        have z0 : (0 : Int) ≤ j := by omega
        have z1 : (j : Int) < es.length := by omega
        have z2 : (0 : Int) ≤ k := by omega
        have z3 : (k : Int) < es.length := by omega
        have gj : (els es).getD j [] = Cel.c es[j] := els_getD hjl
        have gk : (els es).getD k [] = Cel.c es[k] := els_getD hkl
        have hdr : ∀ x : Ev, List.drop 7 (Cel.c x) = [] := fun _ => rfl
        have hlk : k < (es.set j es[k]).length := by rw [List.length_set]; omega
        (refine Cl.here ?_; simp only [go_sem, Nat.reduceAdd, Nat.reduceSub, Nat.reduceMul, Nat.reduceEqDiff, Nat.reduceLT, Nat.reduceLeDiff, Nat.reduceBEq, reduceIte, reduceCtorEq, Int.reduceToNat, Int.reduceLE, Int.reduceLT, Int.reduceBEq, Int.reduceBNe])
        simp only [go_sem, Nat.reduceAdd, Nat.reduceSub, Nat.reduceMul, Nat.reduceEqDiff, Nat.reduceLT, Nat.reduceLeDiff, Nat.reduceBEq, reduceIte, reduceCtorEq, Int.reduceToNat, Int.reduceLE, Int.reduceLT, Int.reduceBEq, Int.reduceBNe, z0, z1, z2, z3, gj, gk]
        rw [hdr, List.append_nil, els_set, els_getD hlk, hdr, List.append_nil, els_set]
        repeat (refine Cl.here ?_; simp only [go_sem, Nat.reduceAdd, Nat.reduceSub, Nat.reduceMul, Nat.reduceEqDiff, Nat.reduceLT, Nat.reduceLeDiff, Nat.reduceBEq, reduceIte, reduceCtorEq, Int.reduceToNat, Int.reduceLE, Int.reduceLT, Int.reduceBEq, Int.reduceBNe])
        rw [wrap_i64 (by omega) (by omega)]
        refine ⟨⟨at_, j - 1, (es.set j es[k]).set k es[j], by omega, by omega, by omega, by simp only [List.length_set]; omega, by simp only [List.length_set]; omega, set_mem (set_mem hes (hes _ (List.getElem_mem hkl))) (hes _ (List.getElem_mem hjl)), by simp, rfl⟩, by omega⟩
      · repeat (refine Cl.here ?_; simp only [go_sem, Nat.reduceAdd, Nat.reduceSub, Nat.reduceMul, Nat.reduceEqDiff, Nat.reduceLT, Nat.reduceLeDiff, Nat.reduceBEq, reduceIte, reduceCtorEq, Int.reduceToNat, Int.reduceLE, Int.reduceLT, Int.reduceBEq, Int.reduceBNe])
        rw [wrap_i64 (by omega) (by omega)]
        exact ⟨⟨at_, j - 1, es, by omega, by omega, by omega, by omega, by omega, hes, rfl, rfl⟩, by omega⟩
    · repeat (refine Cl.here ?_; simp only [go_sem, Nat.reduceAdd, Nat.reduceSub, Nat.reduceMul, Nat.reduceEqDiff, Nat.reduceLT, Nat.reduceLeDiff, Nat.reduceBEq, reduceIte, reduceCtorEq, Int.reduceToNat, Int.reduceLE, Int.reduceLT, Int.reduceBEq, Int.reduceBNe])
      exact Cl.here ⟨at_, es, rfl, rfl, by omega, by omega, by omega, hes⟩

end Go.Proofs.Ytodbafiepdcfbaa
