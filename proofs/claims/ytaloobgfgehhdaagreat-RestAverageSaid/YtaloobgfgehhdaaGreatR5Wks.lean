/- Made works. -/
import Derived.Test.YtaloobgfgehhdaaGreatR5Sane
import Derived.Test.YtaloobgfgehhdaaGreatR5Got
set_option linter.unusedSimpArgs false
set_option linter.unusedVariables false
set_option linter.unusedSectionVars false
namespace Go.Proofs.YtaloobgfgehhdaaGreat
open Go Go.Abs
set_option linter.unusedSimpArgs false
set_option linter.unusedVariables false

/-- the work of a day that is made -/
def wkG (w : Wk) : Prop := 1 ≤ w.iv.length ∧ w.iv.length ≤ 2 ∧ 20000 ≤ w.day ∧ w.day ≤ 30000 ∧ ∀ v ∈ w.iv, 28800000 ≤ v.fr ∧ v.fr < v.to ∧ v.to ≤ v.fr + 480 ∧ v.to ≤ 40000000
theorem asc_app {L : List Spn} {s : Spn} (h : asc L) (h1 : ∀ x ∈ L, x.to ≤ s.fr) : asc (L ++ [s]) := by
  unfold asc at *
  rw [List.pairwise_append]
  exact ⟨h, by simp, fun a ha b hb => by rw [List.mem_singleton] at hb; subst hb; exact h1 a ha⟩
theorem flatW_snoc {d : Int} {bs : List Iv} {v : Iv} : flatW ⟨d, bs ++ [v]⟩ = flatW ⟨d, bs⟩ ++ [⟨d, v.fr, v.to⟩] := by simp [flatW]
theorem flatS_snoc {ws : List Wk} {w : Wk} : flatS (ws ++ [w]) = flatS ws ++ flatW w := by simp [flatS]
theorem flatS_perm {a b : List Wk} (h : a.Perm b) : (flatS a).Perm (flatS b) := h.flatMap_right _

theorem works_ok (l : List Int) (hl : TapeOk l) (n : Int) (hn0 : 0 ≤ n) (hn : n ≤ 1000) (at_ : Int) (h0 : 0 ≤ at_) (h1 : at_ ≤ l.length) : AFn Tryz.prog 7 [.ref 0 1 0 0, .int .i64 n] [tp l at_]
    (fun v rs => ∃ (a : Int) (ws : List Wk), v = .own 1 ws.length 0 ws.length ∧ rs = [tp l a, .live 45 2 (els ws)] ∧ 0 ≤ a ∧ a ≤ l.length ∧ ws.length ≤ n ∧ (∀ w ∈ ws, wkG w) ∧ (flatS ws).Pairwise disj) := by
  refine afnW Tryz.func7 a7_ok (by simp [a7]) ?_
  simp only [go_sem, Nat.reduceAdd, Nat.reduceSub, Nat.reduceMul, Nat.reduceEqDiff, Nat.reduceLT, Nat.reduceLeDiff, Nat.reduceBEq, reduceIte, reduceCtorEq, Int.reduceToNat, Int.reduceLE, Int.reduceLT, Int.reduceBEq, Int.reduceBNe, a7, a7r0, a7r1, a7r2, a7r3, a7r4, a7r5, a7r6, a7r7, a7r8, a7r9, a7r10, a7r11, a7r12, a7r13, a7r14, a7r15, a7r16, a7r17, a7r18, a7r19, tp]
  (refine Cl.here ?_; simp only [go_sem, Nat.reduceAdd, Nat.reduceSub, Nat.reduceMul, Nat.reduceEqDiff, Nat.reduceLT, Nat.reduceLeDiff, Nat.reduceBEq, reduceIte, reduceCtorEq, Int.reduceToNat, Int.reduceLE, Int.reduceLT, Int.reduceBEq, Int.reduceBNe])
  (refine Cl.here ?_; simp only [go_sem, Nat.reduceAdd, Nat.reduceSub, Nat.reduceMul, Nat.reduceEqDiff, Nat.reduceLT, Nat.reduceLeDiff, Nat.reduceBEq, reduceIte, reduceCtorEq, Int.reduceToNat, Int.reduceLE, Int.reduceLT, Int.reduceBEq, Int.reduceBNe])
  (refine callC_tape (next_ok l hl 3 (by omega)) rfl rfl (by omega) (by omega) ?_; rintro _ at_ _ _ ⟨ x0, rfl, _, _⟩; simp only [go_sem, Nat.reduceAdd, Nat.reduceSub, Nat.reduceMul, Nat.reduceEqDiff, Nat.reduceLT, Nat.reduceLeDiff, Nat.reduceBEq, reduceIte, reduceCtorEq, Int.reduceToNat, Int.reduceLE, Int.reduceLT, Int.reduceBEq, Int.reduceBNe])
  rw [wrap_i64 (x := x0 * 1440) (by omega) (by omega), wrap_i64 (by omega) (by omega)]
  (refine Cl.here ?_; simp only [go_sem, Nat.reduceAdd, Nat.reduceSub, Nat.reduceMul, Nat.reduceEqDiff, Nat.reduceLT, Nat.reduceLeDiff, Nat.reduceBEq, reduceIte, reduceCtorEq, Int.reduceToNat, Int.reduceLE, Int.reduceLT, Int.reduceBEq, Int.reduceBNe])
  rw [wrap_i64 (by omega) (by omega)]
  (refine callC_tape (next_ok l hl (n + 1) (by omega)) rfl rfl (by omega) (by omega) ?_; rintro _ at_ _ _ ⟨ k, rfl, _, _⟩; simp only [go_sem, Nat.reduceAdd, Nat.reduceSub, Nat.reduceMul, Nat.reduceEqDiff, Nat.reduceLT, Nat.reduceLeDiff, Nat.reduceBEq, reduceIte, reduceCtorEq, Int.reduceToNat, Int.reduceLE, Int.reduceLT, Int.reduceBEq, Int.reduceBNe])
  (refine Cl.here ?_; simp only [go_sem, Nat.reduceAdd, Nat.reduceSub, Nat.reduceMul, Nat.reduceEqDiff, Nat.reduceLT, Nat.reduceLeDiff, Nat.reduceBEq, reduceIte, reduceCtorEq, Int.reduceToNat, Int.reduceLE, Int.reduceLT, Int.reduceBEq, Int.reduceBNe])
  refine avcW_loop (fun env rows => ∃ (a : Int) (ws : List Wk) (j t : Int), env = [(0, .ref 0 1 0 0), (5, .own 1 ws.length 0 ws.length), (6, .int .i64 t), (7, .int .i64 j)] ∧ rows = [tapeRow 48 l a, .live 45 2 (els ws)] ∧ 0 ≤ a ∧ a ≤ l.length ∧ 0 ≤ j ∧ ws.length + j ≤ n ∧ (∀ w ∈ ws, wkG w) ∧ asc (flatS ws) ∧ (∀ s ∈ flatS ws, s.to ≤ t) ∧ 29450880 ≤ t ∧ t + 3200 * j ≤ 29453760 + 3200 * n)
    (fun env _ => match slot env 7 with | .int _ j => j.toNat | _ => 0) ?_ ?_
  · (refine Cl.ghost 5  45  2 rfl (Cl.norm [ 0, 5, 6, 7] ?_); simp only [go_sem, Nat.reduceAdd, Nat.reduceSub, Nat.reduceMul, Nat.reduceEqDiff, Nat.reduceLT, Nat.reduceLeDiff, Nat.reduceBEq, reduceIte, reduceCtorEq, Int.reduceToNat, Int.reduceLE, Int.reduceLT, Int.reduceBEq, Int.reduceBNe])
    exact Cl.here ⟨at_, [], k, _, rfl, rfl, by omega, by omega, by omega, by simp; omega, by simp, by simp [flatS, asc], by simp [flatS], by omega, by omega⟩
  · rintro env rows ⟨at_, ws, j, t, rfl, rfl, _, _, _, _, hws, hasc, hto, ht0, ht1⟩
    simp only [go_sem, Nat.reduceAdd, Nat.reduceSub, Nat.reduceMul, Nat.reduceEqDiff, Nat.reduceLT, Nat.reduceLeDiff, Nat.reduceBEq, reduceIte, reduceCtorEq, Int.reduceToNat, Int.reduceLE, Int.reduceLT, Int.reduceBEq, Int.reduceBNe, a7, a7r0, a7r1, a7r2, a7r3, a7r4, a7r5, a7r6, a7r7, a7r8, a7r9, a7r10, a7r11, a7r12, a7r13, a7r14, a7r15, a7r16, a7r17, a7r18, a7r19]
    (refine Cl.here ?_; simp only [go_sem, Nat.reduceAdd, Nat.reduceSub, Nat.reduceMul, Nat.reduceEqDiff, Nat.reduceLT, Nat.reduceLeDiff, Nat.reduceBEq, reduceIte, reduceCtorEq, Int.reduceToNat, Int.reduceLE, Int.reduceLT, Int.reduceBEq, Int.reduceBNe])
    refine condW_intro ?_ ?_ <;> intro hg <;> simp only [decide_eq_true_eq, decide_eq_false_iff_not, beq_iff_eq, beq_eq_false_iff_ne, bne_iff_ne, bne_eq_false_iff_eq, Bool.not_eq_true', Bool.not_eq_false', Int.not_lt, Int.not_le, ne_eq, Bool.and_eq_true, Bool.or_eq_true, Bool.or_eq_false_iff, Bool.and_eq_false_iff] at hg <;> simp only [go_sem, Nat.reduceAdd, Nat.reduceSub, Nat.reduceMul, Nat.reduceEqDiff, Nat.reduceLT, Nat.reduceLeDiff, Nat.reduceBEq, reduceIte, reduceCtorEq, Int.reduceToNat, Int.reduceLE, Int.reduceLT, Int.reduceBEq, Int.reduceBNe, a7, a7r0, a7r1, a7r2, a7r3, a7r4, a7r5, a7r6, a7r7, a7r8, a7r9, a7r10, a7r11, a7r12, a7r13, a7r14, a7r15, a7r16, a7r17, a7r18, a7r19]
    · (refine Cl.here ?_; simp only [go_sem, Nat.reduceAdd, Nat.reduceSub, Nat.reduceMul, Nat.reduceEqDiff, Nat.reduceLT, Nat.reduceLeDiff, Nat.reduceBEq, reduceIte, reduceCtorEq, Int.reduceToNat, Int.reduceLE, Int.reduceLT, Int.reduceBEq, Int.reduceBNe])
      refine ⟨by decide, ?_⟩
      (refine callC_tape (next_ok l hl 5 (by omega)) rfl rfl (by omega) (by omega) ?_; rintro _ at_ _ _ ⟨ x1, rfl, _, _⟩; simp only [go_sem, Nat.reduceAdd, Nat.reduceSub, Nat.reduceMul, Nat.reduceEqDiff, Nat.reduceLT, Nat.reduceLeDiff, Nat.reduceBEq, reduceIte, reduceCtorEq, Int.reduceToNat, Int.reduceLE, Int.reduceLT, Int.reduceBEq, Int.reduceBNe])
      refine ⟨by decide, ?_⟩
      have hday : ∃ day : Int, IntKind.i64.wrap (IntKind.i64.wrap (t.tdiv 1440) - IntKind.i64.wrap (x1.tdiv 4)) = day ∧ 20000 ≤ day ∧ day ≤ 30000 := by
        have e1 : t.tdiv 1440 = t / 1440 := Int.tdiv_eq_ediv_of_nonneg (by omega)
        have e2 : x1.tdiv 4 = x1 / 4 := Int.tdiv_eq_ediv_of_nonneg (by omega)
        rw [e1, e2, wrap_i64 (x := t / 1440) (by omega) (by omega), wrap_i64 (x := x1 / 4) (by omega) (by omega), wrap_i64 (by omega) (by omega)]
        exact ⟨_, rfl, by omega, by omega⟩
      obtain ⟨day, hde, hd0, hd1⟩ := hday
      rw [hde]
      clear hde
      (refine Cl.here ?_; simp only [go_sem, Nat.reduceAdd, Nat.reduceSub, Nat.reduceMul, Nat.reduceEqDiff, Nat.reduceLT, Nat.reduceLeDiff, Nat.reduceBEq, reduceIte, reduceCtorEq, Int.reduceToNat, Int.reduceLE, Int.reduceLT, Int.reduceBEq, Int.reduceBNe])
      (refine callC_tape (next_ok l hl 2 (by omega)) rfl rfl (by omega) (by omega) ?_; rintro _ at_ _ _ ⟨ c, rfl, _, _⟩; simp only [go_sem, Nat.reduceAdd, Nat.reduceSub, Nat.reduceMul, Nat.reduceEqDiff, Nat.reduceLT, Nat.reduceLeDiff, Nat.reduceBEq, reduceIte, reduceCtorEq, Int.reduceToNat, Int.reduceLE, Int.reduceLT, Int.reduceBEq, Int.reduceBNe])
      rw [wrap_i64 (by omega) (by omega)]
      (refine Cl.here ?_; simp only [go_sem, Nat.reduceAdd, Nat.reduceSub, Nat.reduceMul, Nat.reduceEqDiff, Nat.reduceLT, Nat.reduceLeDiff, Nat.reduceBEq, reduceIte, reduceCtorEq, Int.reduceToNat, Int.reduceLE, Int.reduceLT, Int.reduceBEq, Int.reduceBNe])
      refine avcW_loop (fun env rows => ∃ (a : Int) (bs : List Iv) (i t' : Int), env = [(0, .ref 0 1 0 0), (5, .own 1 ws.length 0 ws.length), (6, .int .i64 t'), (7, .int .i64 j), (8, .ref 2 1 0 0), (9, .int .i64 i)] ∧
          rows = [tapeRow 48 l a, .live 45 2 (els ws), .live 45 2 [[.int .i64 day, .own 3 bs.length 0 bs.length]], .live 53 2 (els bs)] ∧ 0 ≤ a ∧ a ≤ l.length ∧ 0 ≤ i ∧ bs.length + i ≤ 2 ∧ 1 ≤ bs.length + i ∧ t ≤ t' ∧ t' + 880 * i ≤ t + 1760 ∧ (∀ v ∈ bs, 28800000 ≤ v.fr ∧ v.fr < v.to ∧ v.to ≤ v.fr + 480 ∧ v.to ≤ 40000000) ∧ asc (flatS ws ++ flatW ⟨day, bs⟩) ∧ ∀ s ∈ flatS ws ++ flatW ⟨day, bs⟩, s.to ≤ t')
        (fun env _ => match slot env 9 with | .int _ j => j.toNat | _ => 0) ?_ ?_
      · (refine Cl.step (.ghostC 2  0  1  53  2 rfl (by simp) (by decide) rfl) ?_; simp only [go_sem, Nat.reduceAdd, Nat.reduceSub, Nat.reduceMul, Nat.reduceEqDiff, Nat.reduceLT, Nat.reduceLeDiff, Nat.reduceBEq, reduceIte, reduceCtorEq, Int.reduceToNat, Int.reduceLE, Int.reduceLT, Int.reduceBEq, Int.reduceBNe, splice])
        exact Cl.here ⟨at_, [], 1 + c, t, rfl, rfl, by omega, by omega, by omega, by simp; omega, by simp; omega, by omega, by omega, by simp, by simpa [flatW] using hasc, by simpa [flatW] using hto⟩
      · rintro env rows ⟨at_, bs, i, t', rfl, rfl, _, _, _, _, hl1, ht2, ht3, hbs, hasc2, hto2⟩
        simp only [go_sem, Nat.reduceAdd, Nat.reduceSub, Nat.reduceMul, Nat.reduceEqDiff, Nat.reduceLT, Nat.reduceLeDiff, Nat.reduceBEq, reduceIte, reduceCtorEq, Int.reduceToNat, Int.reduceLE, Int.reduceLT, Int.reduceBEq, Int.reduceBNe, a7, a7r0, a7r1, a7r2, a7r3, a7r4, a7r5, a7r6, a7r7, a7r8, a7r9, a7r10, a7r11, a7r12, a7r13, a7r14, a7r15, a7r16, a7r17, a7r18, a7r19]
        (refine Cl.here ?_; simp only [go_sem, Nat.reduceAdd, Nat.reduceSub, Nat.reduceMul, Nat.reduceEqDiff, Nat.reduceLT, Nat.reduceLeDiff, Nat.reduceBEq, reduceIte, reduceCtorEq, Int.reduceToNat, Int.reduceLE, Int.reduceLT, Int.reduceBEq, Int.reduceBNe])
        refine condW_intro ?_ ?_ <;> intro hg2 <;> simp only [decide_eq_true_eq, decide_eq_false_iff_not, beq_iff_eq, beq_eq_false_iff_ne, bne_iff_ne, bne_eq_false_iff_eq, Bool.not_eq_true', Bool.not_eq_false', Int.not_lt, Int.not_le, ne_eq, Bool.and_eq_true, Bool.or_eq_true, Bool.or_eq_false_iff, Bool.and_eq_false_iff] at hg2 <;> simp only [go_sem, Nat.reduceAdd, Nat.reduceSub, Nat.reduceMul, Nat.reduceEqDiff, Nat.reduceLT, Nat.reduceLeDiff, Nat.reduceBEq, reduceIte, reduceCtorEq, Int.reduceToNat, Int.reduceLE, Int.reduceLT, Int.reduceBEq, Int.reduceBNe, a7, a7r0, a7r1, a7r2, a7r3, a7r4, a7r5, a7r6, a7r7, a7r8, a7r9, a7r10, a7r11, a7r12, a7r13, a7r14, a7r15, a7r16, a7r17, a7r18, a7r19]
        · (refine Cl.here ?_; simp only [go_sem, Nat.reduceAdd, Nat.reduceSub, Nat.reduceMul, Nat.reduceEqDiff, Nat.reduceLT, Nat.reduceLeDiff, Nat.reduceBEq, reduceIte, reduceCtorEq, Int.reduceToNat, Int.reduceLE, Int.reduceLT, Int.reduceBEq, Int.reduceBNe])
          (refine callC_pick [0, 30, 400, 1] (pick_ok l hl _ (by simp) (by simp)) rfl rfl rfl rfl rfl (by decide) (by omega) (by omega) ?_; rintro _ at_ _ _ ⟨x, hmem, rfl⟩; simp only [List.mem_cons, List.not_mem_nil, or_false] at hmem; simp only [go_sem, Nat.reduceAdd, Nat.reduceSub, Nat.reduceMul, Nat.reduceEqDiff, Nat.reduceLT, Nat.reduceLeDiff, Nat.reduceBEq, reduceIte, reduceCtorEq, Int.reduceToNat, Int.reduceLE, Int.reduceLT, Int.reduceBEq, Int.reduceBNe])
          have hx : 0 ≤ x ∧ x ≤ 400 := by omega
          clear hmem
          rw [wrap_i64 (by omega) (by omega)]
          (refine Cl.here ?_; simp only [go_sem, Nat.reduceAdd, Nat.reduceSub, Nat.reduceMul, Nat.reduceEqDiff, Nat.reduceLT, Nat.reduceLeDiff, Nat.reduceBEq, reduceIte, reduceCtorEq, Int.reduceToNat, Int.reduceLE, Int.reduceLT, Int.reduceBEq, Int.reduceBNe])
          (refine callC_pick [240, 60, 480, 1] (pick_ok l hl _ (by simp) (by simp)) rfl rfl rfl rfl rfl (by decide) (by omega) (by omega) ?_; rintro _ at_ _ _ ⟨y, hmem, rfl⟩; simp only [List.mem_cons, List.not_mem_nil, or_false] at hmem; simp only [go_sem, Nat.reduceAdd, Nat.reduceSub, Nat.reduceMul, Nat.reduceEqDiff, Nat.reduceLT, Nat.reduceLeDiff, Nat.reduceBEq, reduceIte, reduceCtorEq, Int.reduceToNat, Int.reduceLE, Int.reduceLT, Int.reduceBEq, Int.reduceBNe])
          have hy : 1 ≤ y ∧ y ≤ 480 := by omega
          clear hmem
          (refine Cl.here ?_; simp only [go_sem, Nat.reduceAdd, Nat.reduceSub, Nat.reduceMul, Nat.reduceEqDiff, Nat.reduceLT, Nat.reduceLeDiff, Nat.reduceBEq, reduceIte, reduceCtorEq, Int.reduceToNat, Int.reduceLE, Int.reduceLT, Int.reduceBEq, Int.reduceBNe])
          rw [wrap_i64 (by omega) (by omega)]
          refine ⟨by omega, ?_⟩
          rw [iv_snoc]
          (refine Cl.here ?_; simp only [go_sem, Nat.reduceAdd, Nat.reduceSub, Nat.reduceMul, Nat.reduceEqDiff, Nat.reduceLT, Nat.reduceLeDiff, Nat.reduceBEq, reduceIte, reduceCtorEq, Int.reduceToNat, Int.reduceLE, Int.reduceLT, Int.reduceBEq, Int.reduceBNe])
          rw [wrap_i64 (by omega) (by omega)]
          (refine Cl.here ?_; simp only [go_sem, Nat.reduceAdd, Nat.reduceSub, Nat.reduceMul, Nat.reduceEqDiff, Nat.reduceLT, Nat.reduceLeDiff, Nat.reduceBEq, reduceIte, reduceCtorEq, Int.reduceToNat, Int.reduceLE, Int.reduceLT, Int.reduceBEq, Int.reduceBNe])
          rw [wrap_i64 (by omega) (by omega)]
          (refine Cl.tr [some 0, some 1, some 2, some 3] [] rfl rfl (by simp only [go_sem, Nat.reduceAdd, Nat.reduceSub, Nat.reduceMul, Nat.reduceEqDiff, Nat.reduceLT, Nat.reduceLeDiff, Nat.reduceBEq, reduceIte, reduceCtorEq, Int.reduceToNat, Int.reduceLE, Int.reduceLT, Int.reduceBEq, Int.reduceBNe] <;> rfl) ?_; simp only [go_sem, Nat.reduceAdd, Nat.reduceSub, Nat.reduceMul, Nat.reduceEqDiff, Nat.reduceLT, Nat.reduceLeDiff, Nat.reduceBEq, reduceIte, reduceCtorEq, Int.reduceToNat, Int.reduceLE, Int.reduceLT, Int.reduceBEq, Int.reduceBNe])
          refine Cl.here ⟨⟨at_, bs ++ [⟨t' + x, t' + x + y⟩], i - 1, t' + x + y, by simp, by simp, by omega, by omega, by omega, by simp; omega, by simp; omega, by omega, by omega, ?_, ?_, ?_⟩, ?_⟩
          · intro v hv
            simp only [List.mem_append, List.mem_singleton] at hv
            rcases hv with hv | rfl
            · exact hbs v hv
            · simp only; omega
          · rw [flatW_snoc, ← List.append_assoc]
            exact asc_app hasc2 fun s hs => by have := hto2 s hs; simp only; omega
          · rw [flatW_snoc, ← List.append_assoc]
            intro s hs
            rcases List.mem_append.1 hs with hs | hs
            · have := hto2 s hs; omega
            · rw [List.mem_singleton] at hs; subst hs; simp only; omega
          · simp only [go_sem, Nat.reduceAdd, Nat.reduceSub, Nat.reduceMul, Nat.reduceEqDiff, Nat.reduceLT, Nat.reduceLeDiff, Nat.reduceBEq, reduceIte, reduceCtorEq, Int.reduceToNat, Int.reduceLE, Int.reduceLT, Int.reduceBEq, Int.reduceBNe]
            omega
        · (refine Cl.here ?_; simp only [go_sem, Nat.reduceAdd, Nat.reduceSub, Nat.reduceMul, Nat.reduceEqDiff, Nat.reduceLT, Nat.reduceLeDiff, Nat.reduceBEq, reduceIte, reduceCtorEq, Int.reduceToNat, Int.reduceLE, Int.reduceLT, Int.reduceBEq, Int.reduceBNe])
          refine ⟨by omega, ?_⟩
          (refine Cl.frz [some 0, some 1] [ 3] rfl rfl (by simp only [go_sem, Nat.reduceAdd, Nat.reduceSub, Nat.reduceMul, Nat.reduceEqDiff, Nat.reduceLT, Nat.reduceLeDiff, Nat.reduceBEq, reduceIte, reduceCtorEq, Int.reduceToNat, Int.reduceLE, Int.reduceLT, Int.reduceBEq, Int.reduceBNe] <;> rfl) ?_; simp only [go_sem, Nat.reduceAdd, Nat.reduceSub, Nat.reduceMul, Nat.reduceEqDiff, Nat.reduceLT, Nat.reduceLeDiff, Nat.reduceBEq, reduceIte, reduceCtorEq, Int.reduceToNat, Int.reduceLE, Int.reduceLT, Int.reduceBEq, Int.reduceBNe])
          rw [wk_snoc]
          (refine Cl.here ?_; simp only [go_sem, Nat.reduceAdd, Nat.reduceSub, Nat.reduceMul, Nat.reduceEqDiff, Nat.reduceLT, Nat.reduceLeDiff, Nat.reduceBEq, reduceIte, reduceCtorEq, Int.reduceToNat, Int.reduceLE, Int.reduceLT, Int.reduceBEq, Int.reduceBNe])
          (refine callC_pick [600, 0, 1440, 60] (pick_ok l hl _ (by simp) (by simp)) rfl rfl rfl rfl rfl (by decide) (by omega) (by omega) ?_; rintro _ at_ _ _ ⟨z, hmem, rfl⟩; simp only [List.mem_cons, List.not_mem_nil, or_false] at hmem; simp only [go_sem, Nat.reduceAdd, Nat.reduceSub, Nat.reduceMul, Nat.reduceEqDiff, Nat.reduceLT, Nat.reduceLeDiff, Nat.reduceBEq, reduceIte, reduceCtorEq, Int.reduceToNat, Int.reduceLE, Int.reduceLT, Int.reduceBEq, Int.reduceBNe])
          have hz : 0 ≤ z ∧ z ≤ 1440 := by omega
          clear hmem
          rw [wrap_i64 (by omega) (by omega)]
          (refine Cl.here ?_; simp only [go_sem, Nat.reduceAdd, Nat.reduceSub, Nat.reduceMul, Nat.reduceEqDiff, Nat.reduceLT, Nat.reduceLeDiff, Nat.reduceBEq, reduceIte, reduceCtorEq, Int.reduceToNat, Int.reduceLE, Int.reduceLT, Int.reduceBEq, Int.reduceBNe])
          rw [wrap_i64 (by omega) (by omega)]
          (refine Cl.tr [some 0, some 1] [] rfl rfl (by simp only [go_sem, Nat.reduceAdd, Nat.reduceSub, Nat.reduceMul, Nat.reduceEqDiff, Nat.reduceLT, Nat.reduceLeDiff, Nat.reduceBEq, reduceIte, reduceCtorEq, Int.reduceToNat, Int.reduceLE, Int.reduceLT, Int.reduceBEq, Int.reduceBNe] <;> rfl) ?_; simp only [go_sem, Nat.reduceAdd, Nat.reduceSub, Nat.reduceMul, Nat.reduceEqDiff, Nat.reduceLT, Nat.reduceLeDiff, Nat.reduceBEq, reduceIte, reduceCtorEq, Int.reduceToNat, Int.reduceLE, Int.reduceLT, Int.reduceBEq, Int.reduceBNe])
          refine Cl.here ⟨⟨at_, ws ++ [⟨day, bs⟩], j - 1, t' + z, by simp, rfl, by omega, by omega, by omega, by simp; omega, ?_, by rw [flatS_snoc]; exact hasc2, ?_, by omega, by omega⟩, ?_⟩
          · intro w hw
            simp only [List.mem_append, List.mem_singleton] at hw
            rcases hw with hw | rfl
            · exact hws w hw
            · exact ⟨by simp only; omega, by simp only; omega, by simp only; omega, by simp only; omega, hbs⟩
          · rw [flatS_snoc]
            intro s hs
            have := hto2 s hs
            omega
          · simp only [go_sem, Nat.reduceAdd, Nat.reduceSub, Nat.reduceMul, Nat.reduceEqDiff, Nat.reduceLT, Nat.reduceLeDiff, Nat.reduceBEq, reduceIte, reduceCtorEq, Int.reduceToNat, Int.reduceLE, Int.reduceLT, Int.reduceBEq, Int.reduceBNe]
            omega
    · (refine Cl.here ?_; simp only [go_sem, Nat.reduceAdd, Nat.reduceSub, Nat.reduceMul, Nat.reduceEqDiff, Nat.reduceLT, Nat.reduceLeDiff, Nat.reduceBEq, reduceIte, reduceCtorEq, Int.reduceToNat, Int.reduceLE, Int.reduceLT, Int.reduceBEq, Int.reduceBNe])
      have hdj := asc_disj hasc
      by_cases h2 : 1 < ws.length
      · have hd : decide ((1 : Int) < ws.length) = true := decide_eq_true (by omega)
        simp only [go_sem, Nat.reduceAdd, Nat.reduceSub, Nat.reduceMul, Nat.reduceEqDiff, Nat.reduceLT, Nat.reduceLeDiff, Nat.reduceBEq, reduceIte, reduceCtorEq, Int.reduceToNat, Int.reduceLE, Int.reduceLT, Int.reduceBEq, Int.reduceBNe, hd]
        (refine callC_tape (next_ok l hl 2 (by omega)) rfl rfl (by omega) (by omega) ?_; rintro _ at_ _ _ ⟨ y0, rfl, _, _⟩; simp only [go_sem, Nat.reduceAdd, Nat.reduceSub, Nat.reduceMul, Nat.reduceEqDiff, Nat.reduceLT, Nat.reduceLeDiff, Nat.reduceBEq, reduceIte, reduceCtorEq, Int.reduceToNat, Int.reduceLE, Int.reduceLT, Int.reduceBEq, Int.reduceBNe])
        (refine Cl.here ?_; simp only [go_sem, Nat.reduceAdd, Nat.reduceSub, Nat.reduceMul, Nat.reduceEqDiff, Nat.reduceLT, Nat.reduceLeDiff, Nat.reduceBEq, reduceIte, reduceCtorEq, Int.reduceToNat, Int.reduceLE, Int.reduceLT, Int.reduceBEq, Int.reduceBNe])
        refine condW_intro ?_ ?_ <;> intro hg2 <;> simp only [decide_eq_true_eq, decide_eq_false_iff_not, beq_iff_eq, beq_eq_false_iff_ne, bne_iff_ne, bne_eq_false_iff_eq, Bool.not_eq_true', Bool.not_eq_false', Int.not_lt, Int.not_le, ne_eq, Bool.and_eq_true, Bool.or_eq_true, Bool.or_eq_false_iff, Bool.and_eq_false_iff] at hg2 <;> simp only [go_sem, Nat.reduceAdd, Nat.reduceSub, Nat.reduceMul, Nat.reduceEqDiff, Nat.reduceLT, Nat.reduceLeDiff, Nat.reduceBEq, reduceIte, reduceCtorEq, Int.reduceToNat, Int.reduceLE, Int.reduceLT, Int.reduceBEq, Int.reduceBNe, a7, a7r0, a7r1, a7r2, a7r3, a7r4, a7r5, a7r6, a7r7, a7r8, a7r9, a7r10, a7r11, a7r12, a7r13, a7r14, a7r15, a7r16, a7r17, a7r18, a7r19]
        · (refine callC_tape (next_ok l hl ws.length (by omega)) rfl rfl (by omega) (by omega) ?_; rintro _ at_ _ _ ⟨ kk, rfl, _, _⟩; simp only [go_sem, Nat.reduceAdd, Nat.reduceSub, Nat.reduceMul, Nat.reduceEqDiff, Nat.reduceLT, Nat.reduceLeDiff, Nat.reduceBEq, reduceIte, reduceCtorEq, Int.reduceToNat, Int.reduceLE, Int.reduceLT, Int.reduceBEq, Int.reduceBNe])
          obtain ⟨k, rfl⟩ : ∃ k : Nat, kk = k := ⟨kk.toNat, by omega⟩
          have hk0 : (0 : Int) ≤ k := by omega
          have hk1 : (k : Int) < ws.length := by omega
          have hz : (0 : Int) < ws.length := by omega
          have hgk : (els ws).getD k [] = Cel.c ws[k] := els_getD (by omega)
          have hg0 : (els ws).getD 0 [] = Cel.c ws[0] := els_getD (by omega)
          (refine Cl.here ?_; simp only [go_sem, Nat.reduceAdd, Nat.reduceSub, Nat.reduceMul, Nat.reduceEqDiff, Nat.reduceLT, Nat.reduceLeDiff, Nat.reduceBEq, reduceIte, reduceCtorEq, Int.reduceToNat, Int.reduceLE, Int.reduceLT, Int.reduceBEq, Int.reduceBNe])
          simp only [go_sem, Nat.reduceAdd, Nat.reduceSub, Nat.reduceMul, Nat.reduceEqDiff, Nat.reduceLT, Nat.reduceLeDiff, Nat.reduceBEq, reduceIte, reduceCtorEq, Int.reduceToNat, Int.reduceLE, Int.reduceLT, Int.reduceBEq, Int.reduceBNe, hk0, hk1, hz, hgk, hg0]
          have hd2 : ∀ x : Wk, List.drop 2 (Cel.c x) = [] := fun _ => rfl
          have hlk : k < (ws.set 0 ws[k]).length := by rw [List.length_set]; omega
          rw [hd2, List.append_nil, els_set, els_getD hlk, hd2, List.append_nil, els_set]
          have hperm : ((ws.set 0 ws[k]).set k ws[0]).Perm ws := List.set_set_perm (by omega) (by omega)
          repeat (refine Cl.here ?_; simp only [go_sem, Nat.reduceAdd, Nat.reduceSub, Nat.reduceMul, Nat.reduceEqDiff, Nat.reduceLT, Nat.reduceLeDiff, Nat.reduceBEq, reduceIte, reduceCtorEq, Int.reduceToNat, Int.reduceLE, Int.reduceLT, Int.reduceBEq, Int.reduceBNe])
          refine Cl.here ⟨at_, (ws.set 0 ws[k]).set k ws[0], by simp [slot], rfl, by omega, by omega, by simp; omega, fun w hw => hws w (hperm.mem_iff.1 hw), (pw_perm (flatS_perm hperm)).2 hdj⟩
        · repeat (refine Cl.here ?_; simp only [go_sem, Nat.reduceAdd, Nat.reduceSub, Nat.reduceMul, Nat.reduceEqDiff, Nat.reduceLT, Nat.reduceLeDiff, Nat.reduceBEq, reduceIte, reduceCtorEq, Int.reduceToNat, Int.reduceLE, Int.reduceLT, Int.reduceBEq, Int.reduceBNe])
          exact Cl.here ⟨at_, ws, rfl, rfl, by omega, by omega, by omega, hws, hdj⟩
      · have hd : decide ((1 : Int) < ws.length) = false := decide_eq_false (by omega)
        simp only [go_sem, Nat.reduceAdd, Nat.reduceSub, Nat.reduceMul, Nat.reduceEqDiff, Nat.reduceLT, Nat.reduceLeDiff, Nat.reduceBEq, reduceIte, reduceCtorEq, Int.reduceToNat, Int.reduceLE, Int.reduceLT, Int.reduceBEq, Int.reduceBNe, hd]
        repeat (refine Cl.here ?_; simp only [go_sem, Nat.reduceAdd, Nat.reduceSub, Nat.reduceMul, Nat.reduceEqDiff, Nat.reduceLT, Nat.reduceLeDiff, Nat.reduceBEq, reduceIte, reduceCtorEq, Int.reduceToNat, Int.reduceLE, Int.reduceLT, Int.reduceBEq, Int.reduceBNe])
        exact Cl.here ⟨at_, ws, rfl, rfl, by omega, by omega, by omega, hws, hdj⟩

end Go.Proofs.YtaloobgfgehhdaaGreat
