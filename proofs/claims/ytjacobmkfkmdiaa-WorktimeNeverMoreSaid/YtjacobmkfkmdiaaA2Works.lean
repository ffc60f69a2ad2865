/- Works. -/
import Derived.Test.YtjacobmkfkmdiaaA2WSane
import Derived.Test.YtjacobmkfkmdiaaA2Pres
set_option linter.unusedSimpArgs false
set_option linter.unusedVariables false
set_option linter.unusedSectionVars false
namespace Go.Proofs.Ytjacobmkfkmdiaa
open Go Go.Abs
set_option linter.unusedSimpArgs false
attribute [go_sem] wk_snoc

def wkOk (w : Wk) : Prop := w.iv.length ≤ 2 ∧ ∀ v ∈ w.iv, 0 ≤ v.fr ∧ v.fr < v.to ∧ v.to ≤ 40000000
theorem works_ok (l : List Int) (hl : TapeOk l) (n : Int) (hn0 : 0 ≤ n) (hn : n ≤ 1000) (at_ : Int) (h0 : 0 ≤ at_) (h1 : at_ ≤ l.length) : AFn Try.prog 29 [.ref 0 1 0 0, .int .i64 n] [tp l at_]
    (fun v rs => ∃ (a : Int) (ws : List Wk), v = .own 1 ws.length 0 ws.length ∧ rs = [tp l a, .live 59 2 (els ws)] ∧ 0 ≤ a ∧ a ≤ l.length ∧ ws.length ≤ n ∧ ∀ w ∈ ws, wkOk w) := by
  refine afnW Try.func29 a29_ok (by simp [a29]) ?_
  simp only [go_sem, Nat.reduceAdd, Nat.reduceSub, Nat.reduceMul, Nat.reduceEqDiff, Nat.reduceLT, Nat.reduceLeDiff, Nat.reduceBEq, reduceIte, reduceCtorEq, Int.reduceToNat, Int.reduceLE, Int.reduceLT, Int.reduceBEq, Int.reduceBNe, a29, a29r0, a29r1, a29r2, a29r3, a29r4, a29r5, a29r6, a29r7, a29r8, a29r9, a29r10, a29r11, a29r12, a29r13, a29r14, a29r15, a29r16, a29r17, a29r18, a29r19, tp]
  (refine Cl.here ?_; simp only [go_sem, Nat.reduceAdd, Nat.reduceSub, Nat.reduceMul, Nat.reduceEqDiff, Nat.reduceLT, Nat.reduceLeDiff, Nat.reduceBEq, reduceIte, reduceCtorEq, Int.reduceToNat, Int.reduceLE, Int.reduceLT, Int.reduceBEq, Int.reduceBNe])
  (refine Cl.here ?_; simp only [go_sem, Nat.reduceAdd, Nat.reduceSub, Nat.reduceMul, Nat.reduceEqDiff, Nat.reduceLT, Nat.reduceLeDiff, Nat.reduceBEq, reduceIte, reduceCtorEq, Int.reduceToNat, Int.reduceLE, Int.reduceLT, Int.reduceBEq, Int.reduceBNe])
  (refine callC_tape (next_ok l hl 3 (by omega)) rfl rfl (by omega) (by omega) ?_; rintro _ at_ _ _ ⟨ x0, rfl, _, _⟩; simp only [go_sem, Nat.reduceAdd, Nat.reduceSub, Nat.reduceMul, Nat.reduceEqDiff, Nat.reduceLT, Nat.reduceLeDiff, Nat.reduceBEq, reduceIte, reduceCtorEq, Int.reduceToNat, Int.reduceLE, Int.reduceLT, Int.reduceBEq, Int.reduceBNe])
  rw [wrap_i64 (x := x0 * 1440) (by omega) (by omega), wrap_i64 (by omega) (by omega)]
  (refine Cl.here ?_; simp only [go_sem, Nat.reduceAdd, Nat.reduceSub, Nat.reduceMul, Nat.reduceEqDiff, Nat.reduceLT, Nat.reduceLeDiff, Nat.reduceBEq, reduceIte, reduceCtorEq, Int.reduceToNat, Int.reduceLE, Int.reduceLT, Int.reduceBEq, Int.reduceBNe])
  rw [wrap_i64 (by omega) (by omega)]
  (refine callC_tape (next_ok l hl (n + 1) (by omega)) rfl rfl (by omega) (by omega) ?_; rintro _ at_ _ _ ⟨ k, rfl, _, _⟩; simp only [go_sem, Nat.reduceAdd, Nat.reduceSub, Nat.reduceMul, Nat.reduceEqDiff, Nat.reduceLT, Nat.reduceLeDiff, Nat.reduceBEq, reduceIte, reduceCtorEq, Int.reduceToNat, Int.reduceLE, Int.reduceLT, Int.reduceBEq, Int.reduceBNe])
  (refine Cl.here ?_; simp only [go_sem, Nat.reduceAdd, Nat.reduceSub, Nat.reduceMul, Nat.reduceEqDiff, Nat.reduceLT, Nat.reduceLeDiff, Nat.reduceBEq, reduceIte, reduceCtorEq, Int.reduceToNat, Int.reduceLE, Int.reduceLT, Int.reduceBEq, Int.reduceBNe])
  refine avcW_loop (fun env rows => ∃ (a : Int) (ws : List Wk) (j t : Int), env = [(0, .ref 0 1 0 0), (5, .own 1 ws.length 0 ws.length), (6, .int .i64 t), (7, .int .i64 j)] ∧ rows = [tapeRow 100 l a, .live 59 2 (els ws)] ∧ 0 ≤ a ∧ a ≤ l.length ∧ 0 ≤ j ∧ ws.length + j ≤ n ∧ (∀ w ∈ ws, wkOk w) ∧ 0 ≤ t ∧ t + 3200 * j ≤ 29453760 + 3200 * n)
    (fun env _ => match slot env 7 with | .int _ j => j.toNat | _ => 0) ?_ ?_
  · (refine Cl.ghost 5  59  2 rfl (Cl.norm [ 0, 5, 6, 7] ?_); simp only [go_sem, Nat.reduceAdd, Nat.reduceSub, Nat.reduceMul, Nat.reduceEqDiff, Nat.reduceLT, Nat.reduceLeDiff, Nat.reduceBEq, reduceIte, reduceCtorEq, Int.reduceToNat, Int.reduceLE, Int.reduceLT, Int.reduceBEq, Int.reduceBNe])
    exact Cl.here ⟨at_, [], k, _, rfl, rfl, by omega, by omega, by omega, by simp; omega, by simp, by omega, by omega⟩
  · rintro env rows ⟨at_, ws, j, t, rfl, rfl, _, _, _, _, hws, ht0, ht1⟩
    simp only [go_sem, Nat.reduceAdd, Nat.reduceSub, Nat.reduceMul, Nat.reduceEqDiff, Nat.reduceLT, Nat.reduceLeDiff, Nat.reduceBEq, reduceIte, reduceCtorEq, Int.reduceToNat, Int.reduceLE, Int.reduceLT, Int.reduceBEq, Int.reduceBNe, a29, a29r0, a29r1, a29r2, a29r3, a29r4, a29r5, a29r6, a29r7, a29r8, a29r9, a29r10, a29r11, a29r12, a29r13, a29r14, a29r15, a29r16, a29r17, a29r18, a29r19]
    (refine Cl.here ?_; simp only [go_sem, Nat.reduceAdd, Nat.reduceSub, Nat.reduceMul, Nat.reduceEqDiff, Nat.reduceLT, Nat.reduceLeDiff, Nat.reduceBEq, reduceIte, reduceCtorEq, Int.reduceToNat, Int.reduceLE, Int.reduceLT, Int.reduceBEq, Int.reduceBNe])
    refine condW_intro ?_ ?_ <;> intro hg <;> simp only [decide_eq_true_eq, decide_eq_false_iff_not, beq_iff_eq, beq_eq_false_iff_ne, bne_iff_ne, bne_eq_false_iff_eq, Bool.not_eq_true', Bool.not_eq_false', Int.not_lt, Int.not_le, ne_eq, Bool.and_eq_true, Bool.or_eq_true, Bool.or_eq_false_iff, Bool.and_eq_false_iff] at hg <;> simp only [go_sem, Nat.reduceAdd, Nat.reduceSub, Nat.reduceMul, Nat.reduceEqDiff, Nat.reduceLT, Nat.reduceLeDiff, Nat.reduceBEq, reduceIte, reduceCtorEq, Int.reduceToNat, Int.reduceLE, Int.reduceLT, Int.reduceBEq, Int.reduceBNe, a29, a29r0, a29r1, a29r2, a29r3, a29r4, a29r5, a29r6, a29r7, a29r8, a29r9, a29r10, a29r11, a29r12, a29r13, a29r14, a29r15, a29r16, a29r17, a29r18, a29r19]
    · (refine Cl.here ?_; simp only [go_sem, Nat.reduceAdd, Nat.reduceSub, Nat.reduceMul, Nat.reduceEqDiff, Nat.reduceLT, Nat.reduceLeDiff, Nat.reduceBEq, reduceIte, reduceCtorEq, Int.reduceToNat, Int.reduceLE, Int.reduceLT, Int.reduceBEq, Int.reduceBNe])
      refine ⟨by decide, ?_⟩
      (refine callC_tape (next_ok l hl 5 (by omega)) rfl rfl (by omega) (by omega) ?_; rintro _ at_ _ _ ⟨ x1, rfl, _, _⟩; simp only [go_sem, Nat.reduceAdd, Nat.reduceSub, Nat.reduceMul, Nat.reduceEqDiff, Nat.reduceLT, Nat.reduceLeDiff, Nat.reduceBEq, reduceIte, reduceCtorEq, Int.reduceToNat, Int.reduceLE, Int.reduceLT, Int.reduceBEq, Int.reduceBNe])
      refine ⟨by decide, ?_⟩
      generalize IntKind.i64.wrap (IntKind.i64.wrap (t.tdiv 1440) - IntKind.i64.wrap (x1.tdiv 4)) = day
      (refine Cl.here ?_; simp only [go_sem, Nat.reduceAdd, Nat.reduceSub, Nat.reduceMul, Nat.reduceEqDiff, Nat.reduceLT, Nat.reduceLeDiff, Nat.reduceBEq, reduceIte, reduceCtorEq, Int.reduceToNat, Int.reduceLE, Int.reduceLT, Int.reduceBEq, Int.reduceBNe])
      (refine callC_tape (next_ok l hl 2 (by omega)) rfl rfl (by omega) (by omega) ?_; rintro _ at_ _ _ ⟨ c, rfl, _, _⟩; simp only [go_sem, Nat.reduceAdd, Nat.reduceSub, Nat.reduceMul, Nat.reduceEqDiff, Nat.reduceLT, Nat.reduceLeDiff, Nat.reduceBEq, reduceIte, reduceCtorEq, Int.reduceToNat, Int.reduceLE, Int.reduceLT, Int.reduceBEq, Int.reduceBNe])
      rw [wrap_i64 (by omega) (by omega)]
      (refine Cl.here ?_; simp only [go_sem, Nat.reduceAdd, Nat.reduceSub, Nat.reduceMul, Nat.reduceEqDiff, Nat.reduceLT, Nat.reduceLeDiff, Nat.reduceBEq, reduceIte, reduceCtorEq, Int.reduceToNat, Int.reduceLE, Int.reduceLT, Int.reduceBEq, Int.reduceBNe])
      refine avcW_loop (fun env rows => ∃ (a : Int) (bs : List Iv) (i t' : Int), env = [(0, .ref 0 1 0 0), (5, .own 1 ws.length 0 ws.length), (6, .int .i64 t'), (7, .int .i64 j), (8, .ref 2 1 0 0), (9, .int .i64 i)] ∧
          rows = [tapeRow 100 l a, .live 59 2 (els ws), .live 59 2 [[.int .i64 day, .own 3 bs.length 0 bs.length]], .live 26 2 (els bs)] ∧ 0 ≤ a ∧ a ≤ l.length ∧ 0 ≤ i ∧ bs.length + i ≤ 2 ∧ 0 ≤ t' ∧ t' + 880 * i ≤ t + 1760 ∧ ∀ v ∈ bs, 0 ≤ v.fr ∧ v.fr < v.to ∧ v.to ≤ 40000000)
        (fun env _ => match slot env 9 with | .int _ j => j.toNat | _ => 0) ?_ ?_
      · (refine Cl.step (.ghostC 2  0  1  26  2 rfl (by simp) (by decide) rfl) ?_; simp only [go_sem, Nat.reduceAdd, Nat.reduceSub, Nat.reduceMul, Nat.reduceEqDiff, Nat.reduceLT, Nat.reduceLeDiff, Nat.reduceBEq, reduceIte, reduceCtorEq, Int.reduceToNat, Int.reduceLE, Int.reduceLT, Int.reduceBEq, Int.reduceBNe, splice])
        exact Cl.here ⟨at_, [], 1 + c, t, rfl, rfl, by omega, by omega, by omega, by simp; omega, by omega, by omega, by simp⟩
      · rintro env rows ⟨at_, bs, i, t', rfl, rfl, _, _, _, _, ht2, ht3, hbs⟩
        simp only [go_sem, Nat.reduceAdd, Nat.reduceSub, Nat.reduceMul, Nat.reduceEqDiff, Nat.reduceLT, Nat.reduceLeDiff, Nat.reduceBEq, reduceIte, reduceCtorEq, Int.reduceToNat, Int.reduceLE, Int.reduceLT, Int.reduceBEq, Int.reduceBNe, a29, a29r0, a29r1, a29r2, a29r3, a29r4, a29r5, a29r6, a29r7, a29r8, a29r9, a29r10, a29r11, a29r12, a29r13, a29r14, a29r15, a29r16, a29r17, a29r18, a29r19]
        (refine Cl.here ?_; simp only [go_sem, Nat.reduceAdd, Nat.reduceSub, Nat.reduceMul, Nat.reduceEqDiff, Nat.reduceLT, Nat.reduceLeDiff, Nat.reduceBEq, reduceIte, reduceCtorEq, Int.reduceToNat, Int.reduceLE, Int.reduceLT, Int.reduceBEq, Int.reduceBNe])
        refine condW_intro ?_ ?_ <;> intro hg2 <;> simp only [decide_eq_true_eq, decide_eq_false_iff_not, beq_iff_eq, beq_eq_false_iff_ne, bne_iff_ne, bne_eq_false_iff_eq, Bool.not_eq_true', Bool.not_eq_false', Int.not_lt, Int.not_le, ne_eq, Bool.and_eq_true, Bool.or_eq_true, Bool.or_eq_false_iff, Bool.and_eq_false_iff] at hg2 <;> simp only [go_sem, Nat.reduceAdd, Nat.reduceSub, Nat.reduceMul, Nat.reduceEqDiff, Nat.reduceLT, Nat.reduceLeDiff, Nat.reduceBEq, reduceIte, reduceCtorEq, Int.reduceToNat, Int.reduceLE, Int.reduceLT, Int.reduceBEq, Int.reduceBNe, a29, a29r0, a29r1, a29r2, a29r3, a29r4, a29r5, a29r6, a29r7, a29r8, a29r9, a29r10, a29r11, a29r12, a29r13, a29r14, a29r15, a29r16, a29r17, a29r18, a29r19]
        · (refine Cl.here ?_; simp only [go_sem, Nat.reduceAdd, Nat.reduceSub, Nat.reduceMul, Nat.reduceEqDiff, Nat.reduceLT, Nat.reduceLeDiff, Nat.reduceBEq, reduceIte, reduceCtorEq, Int.reduceToNat, Int.reduceLE, Int.reduceLT, Int.reduceBEq, Int.reduceBNe])
          (refine callC_pick [0, 30, 400, 1] (pick_ok l hl _ (by simp) (by simp)) rfl rfl rfl rfl rfl (by decide) (by omega) (by omega) ?_; rintro _ at_ _ _ ⟨x, hmem, rfl⟩; simp only [List.mem_cons, List.not_mem_nil, or_false] at hmem; simp only [go_sem, Nat.reduceAdd, Nat.reduceSub, Nat.reduceMul, Nat.reduceEqDiff, Nat.reduceLT, Nat.reduceLeDiff, Nat.reduceBEq, reduceIte, reduceCtorEq, Int.reduceToNat, Int.reduceLE, Int.reduceLT, Int.reduceBEq, Int.reduceBNe])
          have hx : 0 ≤ x ∧ x ≤ 400 := by omega
          clear hmem
          rw [wrap_i64 (by omega) (by omega)]
          (refine Cl.here ?_; simp only [go_sem, Nat.reduceAdd, Nat.reduceSub, Nat.reduceMul, Nat.reduceEqDiff, Nat.reduceLT, Nat.reduceLeDiff, Nat.reduceBEq, reduceIte, reduceCtorEq, Int.reduceToNat, Int.reduceLE, Int.reduceLT, Int.reduceBEq, Int.reduceBNe])
          (refine callC_pick [240, 60, 480, 1] (pick_ok l hl _ (by simp) (by simp)) rfl rfl rfl rfl rfl (by decide) (by omega) (by omega) ?_; rintro _ at_ _ _ ⟨y, hmem, rfl⟩; simp only [List.mem_cons, List.not_mem_nil, or_false] at hmem; simp only [go_sem, Nat.reduceAdd, Nat.reduceSub, Nat.reduceMul, Nat.reduceEqDiff, Nat.reduceLT, Nat.reduceLeDiff, Nat.reduceBEq, reduceIte, reduceCtorEq, Int.reduceToNat, Int.reduceLE, Int.reduceLT, Int.reduceBEq, Int.reduceBNe])
          have hy : 1 ≤ y ∧ y ≤ 480 := by omega
          clear hmem
          (refine Cl.here ?_; simp only [go_sem, Nat.reduceAdd, Nat.reduceSub, Nat.reduceMul, Nat.reduceEqDiff, Nat.reduceLT, Nat.reduceLeDiff, Nat.reduceBEq, reduceIte, reduceCtorEq, Int.reduceToNat, Int.reduceLE, Int.reduceLT, Int.reduceBEq, Int.reduceBNe])
          rw [wrap_i64 (by omega) (by omega)]
          refine ⟨by omega, ?_⟩
          (refine Cl.here ?_; simp only [go_sem, Nat.reduceAdd, Nat.reduceSub, Nat.reduceMul, Nat.reduceEqDiff, Nat.reduceLT, Nat.reduceLeDiff, Nat.reduceBEq, reduceIte, reduceCtorEq, Int.reduceToNat, Int.reduceLE, Int.reduceLT, Int.reduceBEq, Int.reduceBNe])
          rw [wrap_i64 (by omega) (by omega)]
          (refine Cl.here ?_; simp only [go_sem, Nat.reduceAdd, Nat.reduceSub, Nat.reduceMul, Nat.reduceEqDiff, Nat.reduceLT, Nat.reduceLeDiff, Nat.reduceBEq, reduceIte, reduceCtorEq, Int.reduceToNat, Int.reduceLE, Int.reduceLT, Int.reduceBEq, Int.reduceBNe])
          rw [wrap_i64 (by omega) (by omega)]
          (refine Cl.tr [some 0, some 1, some 2, some 3] [] rfl rfl (by simp only [go_sem, Nat.reduceAdd, Nat.reduceSub, Nat.reduceMul, Nat.reduceEqDiff, Nat.reduceLT, Nat.reduceLeDiff, Nat.reduceBEq, reduceIte, reduceCtorEq, Int.reduceToNat, Int.reduceLE, Int.reduceLT, Int.reduceBEq, Int.reduceBNe] <;> rfl) ?_; simp only [go_sem, Nat.reduceAdd, Nat.reduceSub, Nat.reduceMul, Nat.reduceEqDiff, Nat.reduceLT, Nat.reduceLeDiff, Nat.reduceBEq, reduceIte, reduceCtorEq, Int.reduceToNat, Int.reduceLE, Int.reduceLT, Int.reduceBEq, Int.reduceBNe])
          refine Cl.here ⟨⟨at_, bs ++ [⟨t' + x, t' + x + y⟩], i - 1, t' + x + y, by simp, by simp, by omega, by omega, by omega, by simp; omega, by omega, by omega, ?_⟩, ?_⟩
          · intro v hv
            simp only [List.mem_append, List.mem_singleton] at hv
            rcases hv with hv | rfl
            · exact hbs v hv
            · simp only; omega
          · simp only [go_sem, Nat.reduceAdd, Nat.reduceSub, Nat.reduceMul, Nat.reduceEqDiff, Nat.reduceLT, Nat.reduceLeDiff, Nat.reduceBEq, reduceIte, reduceCtorEq, Int.reduceToNat, Int.reduceLE, Int.reduceLT, Int.reduceBEq, Int.reduceBNe]
            omega
        · (refine Cl.here ?_; simp only [go_sem, Nat.reduceAdd, Nat.reduceSub, Nat.reduceMul, Nat.reduceEqDiff, Nat.reduceLT, Nat.reduceLeDiff, Nat.reduceBEq, reduceIte, reduceCtorEq, Int.reduceToNat, Int.reduceLE, Int.reduceLT, Int.reduceBEq, Int.reduceBNe])
          refine ⟨by omega, ?_⟩
          (refine Cl.frz [some 0, some 1] [ 3] rfl rfl (by simp only [go_sem, Nat.reduceAdd, Nat.reduceSub, Nat.reduceMul, Nat.reduceEqDiff, Nat.reduceLT, Nat.reduceLeDiff, Nat.reduceBEq, reduceIte, reduceCtorEq, Int.reduceToNat, Int.reduceLE, Int.reduceLT, Int.reduceBEq, Int.reduceBNe] <;> rfl) ?_; simp only [go_sem, Nat.reduceAdd, Nat.reduceSub, Nat.reduceMul, Nat.reduceEqDiff, Nat.reduceLT, Nat.reduceLeDiff, Nat.reduceBEq, reduceIte, reduceCtorEq, Int.reduceToNat, Int.reduceLE, Int.reduceLT, Int.reduceBEq, Int.reduceBNe])
          (refine Cl.here ?_; simp only [go_sem, Nat.reduceAdd, Nat.reduceSub, Nat.reduceMul, Nat.reduceEqDiff, Nat.reduceLT, Nat.reduceLeDiff, Nat.reduceBEq, reduceIte, reduceCtorEq, Int.reduceToNat, Int.reduceLE, Int.reduceLT, Int.reduceBEq, Int.reduceBNe])
          (refine callC_pick [600, 0, 1440, 60] (pick_ok l hl _ (by simp) (by simp)) rfl rfl rfl rfl rfl (by decide) (by omega) (by omega) ?_; rintro _ at_ _ _ ⟨z, hmem, rfl⟩; simp only [List.mem_cons, List.not_mem_nil, or_false] at hmem; simp only [go_sem, Nat.reduceAdd, Nat.reduceSub, Nat.reduceMul, Nat.reduceEqDiff, Nat.reduceLT, Nat.reduceLeDiff, Nat.reduceBEq, reduceIte, reduceCtorEq, Int.reduceToNat, Int.reduceLE, Int.reduceLT, Int.reduceBEq, Int.reduceBNe])
          have hz : 0 ≤ z ∧ z ≤ 1440 := by omega
          clear hmem
          rw [wrap_i64 (by omega) (by omega)]
          (refine Cl.here ?_; simp only [go_sem, Nat.reduceAdd, Nat.reduceSub, Nat.reduceMul, Nat.reduceEqDiff, Nat.reduceLT, Nat.reduceLeDiff, Nat.reduceBEq, reduceIte, reduceCtorEq, Int.reduceToNat, Int.reduceLE, Int.reduceLT, Int.reduceBEq, Int.reduceBNe])
          rw [wrap_i64 (by omega) (by omega)]
          (refine Cl.tr [some 0, some 1] [] rfl rfl (by simp only [go_sem, Nat.reduceAdd, Nat.reduceSub, Nat.reduceMul, Nat.reduceEqDiff, Nat.reduceLT, Nat.reduceLeDiff, Nat.reduceBEq, reduceIte, reduceCtorEq, Int.reduceToNat, Int.reduceLE, Int.reduceLT, Int.reduceBEq, Int.reduceBNe] <;> rfl) ?_; simp only [go_sem, Nat.reduceAdd, Nat.reduceSub, Nat.reduceMul, Nat.reduceEqDiff, Nat.reduceLT, Nat.reduceLeDiff, Nat.reduceBEq, reduceIte, reduceCtorEq, Int.reduceToNat, Int.reduceLE, Int.reduceLT, Int.reduceBEq, Int.reduceBNe])
          refine Cl.here ⟨⟨at_, ws ++ [⟨day, bs⟩], j - 1, t' + z, by simp, rfl, by omega, by omega, by omega, by simp; omega, ?_, by omega, by omega⟩, ?_⟩
          · intro w hw
            simp only [List.mem_append, List.mem_singleton] at hw
            rcases hw with hw | rfl
            · exact hws w hw
            · exact ⟨by simp only; omega, hbs⟩
          · simp only [go_sem, Nat.reduceAdd, Nat.reduceSub, Nat.reduceMul, Nat.reduceEqDiff, Nat.reduceLT, Nat.reduceLeDiff, Nat.reduceBEq, reduceIte, reduceCtorEq, Int.reduceToNat, Int.reduceLE, Int.reduceLT, Int.reduceBEq, Int.reduceBNe]
            omega
    · (refine Cl.here ?_; simp only [go_sem, Nat.reduceAdd, Nat.reduceSub, Nat.reduceMul, Nat.reduceEqDiff, Nat.reduceLT, Nat.reduceLeDiff, Nat.reduceBEq, reduceIte, reduceCtorEq, Int.reduceToNat, Int.reduceLE, Int.reduceLT, Int.reduceBEq, Int.reduceBNe])
      by_cases h2 : 1 < ws.length
      · have hd : decide ((1 : Int) < ws.length) = true := decide_eq_true (by omega)
        simp only [go_sem, Nat.reduceAdd, Nat.reduceSub, Nat.reduceMul, Nat.reduceEqDiff, Nat.reduceLT, Nat.reduceLeDiff, Nat.reduceBEq, reduceIte, reduceCtorEq, Int.reduceToNat, Int.reduceLE, Int.reduceLT, Int.reduceBEq, Int.reduceBNe, hd]
        (refine callC_tape (next_ok l hl 2 (by omega)) rfl rfl (by omega) (by omega) ?_; rintro _ at_ _ _ ⟨ y0, rfl, _, _⟩; simp only [go_sem, Nat.reduceAdd, Nat.reduceSub, Nat.reduceMul, Nat.reduceEqDiff, Nat.reduceLT, Nat.reduceLeDiff, Nat.reduceBEq, reduceIte, reduceCtorEq, Int.reduceToNat, Int.reduceLE, Int.reduceLT, Int.reduceBEq, Int.reduceBNe])
        (refine Cl.here ?_; simp only [go_sem, Nat.reduceAdd, Nat.reduceSub, Nat.reduceMul, Nat.reduceEqDiff, Nat.reduceLT, Nat.reduceLeDiff, Nat.reduceBEq, reduceIte, reduceCtorEq, Int.reduceToNat, Int.reduceLE, Int.reduceLT, Int.reduceBEq, Int.reduceBNe])
        refine condW_intro ?_ ?_ <;> intro hg2 <;> simp only [decide_eq_true_eq, decide_eq_false_iff_not, beq_iff_eq, beq_eq_false_iff_ne, bne_iff_ne, bne_eq_false_iff_eq, Bool.not_eq_true', Bool.not_eq_false', Int.not_lt, Int.not_le, ne_eq, Bool.and_eq_true, Bool.or_eq_true, Bool.or_eq_false_iff, Bool.and_eq_false_iff] at hg2 <;> simp only [go_sem, Nat.reduceAdd, Nat.reduceSub, Nat.reduceMul, Nat.reduceEqDiff, Nat.reduceLT, Nat.reduceLeDiff, Nat.reduceBEq, reduceIte, reduceCtorEq, Int.reduceToNat, Int.reduceLE, Int.reduceLT, Int.reduceBEq, Int.reduceBNe, a29, a29r0, a29r1, a29r2, a29r3, a29r4, a29r5, a29r6, a29r7, a29r8, a29r9, a29r10, a29r11, a29r12, a29r13, a29r14, a29r15, a29r16, a29r17, a29r18, a29r19]
        · (refine callC_tape (next_ok l hl ws.length (by omega)) rfl rfl (by omega) (by omega) ?_; rintro _ at_ _ _ ⟨ kk, rfl, _, _⟩; simp only [go_sem, Nat.reduceAdd, Nat.reduceSub, Nat.reduceMul, Nat.reduceEqDiff, Nat.reduceLT, Nat.reduceLeDiff, Nat.reduceBEq, reduceIte, reduceCtorEq, Int.reduceToNat, Int.reduceLE, Int.reduceLT, Int.reduceBEq, Int.reduceBNe])
          obtain ⟨k, rfl⟩ : ∃ k : Nat, kk = k := ⟨kk.toNat, by omega⟩
          have hk0 : (0 : Int) ≤ k := by omega
          have hk1 : (k : Int) < ws.length := by omega
          have hz : (0 : Int) < ws.length := by omega
          have hgk : (els ws).getD k [] = Cel.c ws[k] := els_getD (by omega)
          have hg0 : (els ws).getD 0 [] = Cel.c ws[0] := els_getD (by omega)
          (refine Cl.here ?_; simp only [go_sem, Nat.reduceAdd, Nat.reduceSub, Nat.reduceMul, Nat.reduceEqDiff, Nat.reduceLT, Nat.reduceLeDiff, Nat.reduceBEq, reduceIte, reduceCtorEq, Int.reduceToNat, Int.reduceLE, Int.reduceLT, Int.reduceBEq, Int.reduceBNe])
          simp only [go_sem, Nat.reduceAdd, Nat.reduceSub, Nat.reduceMul, Nat.reduceEqDiff, Nat.reduceLT, Nat.reduceLeDiff, Nat.reduceBEq, reduceIte, reduceCtorEq, Int.reduceToNat, Int.reduceLE, Int.reduceLT, Int.reduceBEq, Int.reduceBNe, hk0, hk1, hz, hgk, hg0]
          have hd2 : ∀ x : Wk, List.drop 2 (Cel.c x) = [] := fun _ => rfl
          have hlk : k < (ws.set 0 ws[k]).length := by rw [List.length_set]; omega
          rw [hd2, List.append_nil, els_set, els_getD hlk, hd2, List.append_nil, els_set]
          repeat (refine Cl.here ?_; simp only [go_sem, Nat.reduceAdd, Nat.reduceSub, Nat.reduceMul, Nat.reduceEqDiff, Nat.reduceLT, Nat.reduceLeDiff, Nat.reduceBEq, reduceIte, reduceCtorEq, Int.reduceToNat, Int.reduceLE, Int.reduceLT, Int.reduceBEq, Int.reduceBNe])
          refine Cl.here ⟨at_, (ws.set 0 ws[k]).set k ws[0], by simp [slot], rfl, by omega, by omega, by simp; omega, ?_⟩
          intro w hw
          rcases List.mem_or_eq_of_mem_set hw with hw | rfl
          · rcases List.mem_or_eq_of_mem_set hw with hw | rfl
            · exact hws w hw
            · exact hws _ (List.getElem_mem _)
          · exact hws _ (List.getElem_mem _)
        · repeat (refine Cl.here ?_; simp only [go_sem, Nat.reduceAdd, Nat.reduceSub, Nat.reduceMul, Nat.reduceEqDiff, Nat.reduceLT, Nat.reduceLeDiff, Nat.reduceBEq, reduceIte, reduceCtorEq, Int.reduceToNat, Int.reduceLE, Int.reduceLT, Int.reduceBEq, Int.reduceBNe])
          exact Cl.here ⟨at_, ws, rfl, rfl, by omega, by omega, by omega, hws⟩
      · have hd : decide ((1 : Int) < ws.length) = false := decide_eq_false (by omega)
        simp only [go_sem, Nat.reduceAdd, Nat.reduceSub, Nat.reduceMul, Nat.reduceEqDiff, Nat.reduceLT, Nat.reduceLeDiff, Nat.reduceBEq, reduceIte, reduceCtorEq, Int.reduceToNat, Int.reduceLE, Int.reduceLT, Int.reduceBEq, Int.reduceBNe, hd]
        repeat (refine Cl.here ?_; simp only [go_sem, Nat.reduceAdd, Nat.reduceSub, Nat.reduceMul, Nat.reduceEqDiff, Nat.reduceLT, Nat.reduceLeDiff, Nat.reduceBEq, reduceIte, reduceCtorEq, Int.reduceToNat, Int.reduceLE, Int.reduceLT, Int.reduceBEq, Int.reduceBNe])
        exact Cl.here ⟨at_, ws, rfl, rfl, by omega, by omega, by omega, hws⟩

end Go.Proofs.Ytjacobmkfkmdiaa
