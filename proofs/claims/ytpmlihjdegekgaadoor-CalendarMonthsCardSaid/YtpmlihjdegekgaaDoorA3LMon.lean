/- CalendarMonths: the walk. -/
import Derived.Test.YtpmlihjdegekgaaDoorA3Ref2
set_option linter.unusedSimpArgs false
set_option linter.unusedVariables false
set_option linter.unusedSectionVars false
namespace Go.Proofs.YtpmlihjdegekgaaDoor
open Go Go.Abs
set_option linter.unusedSimpArgs false

theorem calendarMonths (n year : Int) : AFn Tryd.prog 5 [.int .i64 n, .int .i64 year] [] (fun v _ => v = .bool true) := by
  refine afn Tryd.func5 a5_ok (by simp [a5]) ?_
  simp only [go_sem, Nat.reduceAdd, Nat.reduceSub, Nat.reduceMul, Nat.reduceEqDiff, Nat.reduceLT, Nat.reduceLeDiff, Nat.reduceBEq, reduceIte, reduceCtorEq, Int.reduceToNat, Int.reduceLE, Int.reduceLT, Int.reduceBEq, Int.reduceBNe, a5, a5r0, a5r1, a5r2, a5r3, a5r4, a5r5, a5r6, a5r7, a5r8, a5r9, a5r10, a5r11, a5r12, a5r13, a5r14, a5r15, a5r16, a5r17]
  refine callC_det (mod_ok n 2762 (by omega) (by omega)) rfl rfl ?_
  simp only [go_sem, Nat.reduceAdd, Nat.reduceSub, Nat.reduceMul, Nat.reduceEqDiff, Nat.reduceLT, Nat.reduceLeDiff, Nat.reduceBEq, reduceIte, reduceCtorEq, Int.reduceToNat, Int.reduceLE, Int.reduceLT, Int.reduceBEq, Int.reduceBNe]
  generalize IntKind.i64.wrap (mod n 2762 - 1) = n1
  refine avc_loop (fun env rows => ∃ i : Nat, i ≤ 2 ∧ env = [(1, .int .i64 year), (21, .own 0 2 0 2), (22, .int .i64 2), (23, .int .i64 i)] ∧ rows = [.live 3 1 [[.int .i64 n], [.int .i64 n1]]])
    (fun env _ => match slot env 23 with | .int _ j => (2 - j).toNat | _ => 0) ?_ ?_
  · exact Cl.here ⟨0, by omega, rfl, rfl⟩
  · rintro env rows ⟨i, hi, rfl, rfl⟩
    obtain h2 | rfl : i < 2 ∨ i = 2 := by omega
    · have hi0 : (0 : Int) ≤ i := by omega
      have hi1 : (i : Int) < 2 := by omega
      have hd : decide ((i : Int) < 2) = true := decide_eq_true hi1
      have hw1 : IntKind.i64.wrap ((i : Int) + 1) = ((i + 1 : Nat) : Int) := by rw [wrap_i64 (by omega) (by omega)]; omega
      obtain ⟨m, hget⟩ : ∃ m, [[AVal.int .i64 n], [AVal.int .i64 n1]].getD i [] = [.int .i64 m] := by
        obtain rfl | rfl : i = 0 ∨ i = 1 := by omega
        · exact ⟨n, rfl⟩
        · exact ⟨n1, rfl⟩
      simp only [go_sem, Nat.reduceAdd, Nat.reduceSub, Nat.reduceMul, Nat.reduceEqDiff, Nat.reduceLT, Nat.reduceLeDiff, Nat.reduceBEq, reduceIte, reduceCtorEq, Int.reduceToNat, Int.reduceLE, Int.reduceLT, Int.reduceBEq, Int.reduceBNe, a5, a5r0, a5r1, a5r2, a5r3, a5r4, a5r5, a5r6, a5r7, a5r8, a5r9, a5r10, a5r11, a5r12, a5r13, a5r14, a5r15, a5r16, a5r17, hd, hi0, hi1, hget]
      have hF := First_ok m
      have hR := rFirst_ok m
      obtain ⟨fv, fb, hv⟩ : ∃ fv fb, (if okM m then AVal.tup [.int .i64 (firstP m), .bool true] else .tup [.int .i64 0, .bool false]) = .tup [.int .i64 fv, .bool fb] := by
        by_cases h : okM m
        · exact ⟨_, _, by rw [if_pos h]⟩
        · exact ⟨_, _, by rw [if_neg h]⟩
      rw [hv] at hF hR
      refine callC_det hF rfl rfl ?_
      simp only [go_sem, Nat.reduceAdd, Nat.reduceSub, Nat.reduceMul, Nat.reduceEqDiff, Nat.reduceLT, Nat.reduceLeDiff, Nat.reduceBEq, reduceIte, reduceCtorEq, Int.reduceToNat, Int.reduceLE, Int.reduceLT, Int.reduceBEq, Int.reduceBNe]
      refine callC_det hR rfl rfl ?_
      simp only [go_sem, Nat.reduceAdd, Nat.reduceSub, Nat.reduceMul, Nat.reduceEqDiff, Nat.reduceLT, Nat.reduceLeDiff, Nat.reduceBEq, reduceIte, reduceCtorEq, Int.reduceToNat, Int.reduceLE, Int.reduceLT, Int.reduceBEq, Int.reduceBNe, bne_self_eq_false]
      try refine callC_det (Length_ok m) rfl rfl ?_
      try simp only [go_sem, Nat.reduceAdd, Nat.reduceSub, Nat.reduceMul, Nat.reduceEqDiff, Nat.reduceLT, Nat.reduceLeDiff, Nat.reduceBEq, reduceIte, reduceCtorEq, Int.reduceToNat, Int.reduceLE, Int.reduceLT, Int.reduceBEq, Int.reduceBNe]
      try refine callC_det (rLength_ok m) rfl rfl ?_
      try simp only [go_sem, Nat.reduceAdd, Nat.reduceSub, Nat.reduceMul, Nat.reduceEqDiff, Nat.reduceLT, Nat.reduceLeDiff, Nat.reduceBEq, reduceIte, reduceCtorEq, Int.reduceToNat, Int.reduceLE, Int.reduceLT, Int.reduceBEq, Int.reduceBNe, bne_self_eq_false, hw1]
      refine Cl.here ⟨⟨i + 1, by omega, rfl, rfl⟩, ?_⟩
      simp only [go_sem, Nat.reduceAdd, Nat.reduceSub, Nat.reduceMul, Nat.reduceEqDiff, Nat.reduceLT, Nat.reduceLeDiff, Nat.reduceBEq, reduceIte, reduceCtorEq, Int.reduceToNat, Int.reduceLE, Int.reduceLT, Int.reduceBEq, Int.reduceBNe]
      omega
    · simp only [go_sem, Nat.reduceAdd, Nat.reduceSub, Nat.reduceMul, Nat.reduceEqDiff, Nat.reduceLT, Nat.reduceLeDiff, Nat.reduceBEq, reduceIte, reduceCtorEq, Int.reduceToNat, Int.reduceLE, Int.reduceLT, Int.reduceBEq, Int.reduceBNe, a5, a5r0, a5r1, a5r2, a5r3, a5r4, a5r5, a5r6, a5r7, a5r8, a5r9, a5r10, a5r11, a5r12, a5r13, a5r14, a5r15, a5r16, a5r17, show ((2 : Nat) : Int) = 2 from rfl]
      refine callC_det (mod_ok year 232 (by omega) (by omega)) rfl rfl ?_
      simp only [go_sem, Nat.reduceAdd, Nat.reduceSub, Nat.reduceMul, Nat.reduceEqDiff, Nat.reduceLT, Nat.reduceLeDiff, Nat.reduceBEq, reduceIte, reduceCtorEq, Int.reduceToNat, Int.reduceLE, Int.reduceLT, Int.reduceBEq, Int.reduceBNe]
      generalize IntKind.i64.wrap (1969 + mod year 232) = y1
      refine avc_loop (fun env rows => ∃ i : Nat, i ≤ 2 ∧ env = [(57, .own 0 2 0 2), (58, .int .i64 2), (59, .int .i64 i)] ∧ rows = [.live 3 1 [[.int .i64 year], [.int .i64 y1]]])
        (fun env _ => match slot env 59 with | .int _ j => (2 - j).toNat | _ => 0) ?_ ?_
      · (refine Cl.tr [some 1] [] rfl rfl (by simp only [go_sem, Nat.reduceAdd, Nat.reduceSub, Nat.reduceMul, Nat.reduceEqDiff, Nat.reduceLT, Nat.reduceLeDiff, Nat.reduceBEq, reduceIte, reduceCtorEq, Int.reduceToNat, Int.reduceLE, Int.reduceLT, Int.reduceBEq, Int.reduceBNe] <;> rfl) ?_; simp only [go_sem, Nat.reduceAdd, Nat.reduceSub, Nat.reduceMul, Nat.reduceEqDiff, Nat.reduceLT, Nat.reduceLeDiff, Nat.reduceBEq, reduceIte, reduceCtorEq, Int.reduceToNat, Int.reduceLE, Int.reduceLT, Int.reduceBEq, Int.reduceBNe])
        exact Cl.here ⟨0, by omega, rfl, rfl⟩
      · rintro env rows ⟨i, hi, rfl, rfl⟩
        obtain h2 | rfl : i < 2 ∨ i = 2 := by omega
        · have hi0 : (0 : Int) ≤ i := by omega
          have hi1 : (i : Int) < 2 := by omega
          have hd : decide ((i : Int) < 2) = true := decide_eq_true hi1
          have hw1 : IntKind.i64.wrap ((i : Int) + 1) = ((i + 1 : Nat) : Int) := by rw [wrap_i64 (by omega) (by omega)]; omega
          obtain ⟨y, hget⟩ : ∃ m, [[AVal.int .i64 year], [AVal.int .i64 y1]].getD i [] = [.int .i64 m] := by
            obtain rfl | rfl : i = 0 ∨ i = 1 := by omega
            · exact ⟨year, rfl⟩
            · exact ⟨y1, rfl⟩
          simp only [go_sem, Nat.reduceAdd, Nat.reduceSub, Nat.reduceMul, Nat.reduceEqDiff, Nat.reduceLT, Nat.reduceLeDiff, Nat.reduceBEq, reduceIte, reduceCtorEq, Int.reduceToNat, Int.reduceLE, Int.reduceLT, Int.reduceBEq, Int.reduceBNe, a5, a5r0, a5r1, a5r2, a5r3, a5r4, a5r5, a5r6, a5r7, a5r8, a5r9, a5r10, a5r11, a5r12, a5r13, a5r14, a5r15, a5r16, a5r17, hd, hi0, hi1, hget]
          obtain ⟨fv, fb, hF, hR⟩ : ∃ fv fb, AFn Tryd.prog 38 [.int .i64 y] [] (fun v rs => v = .tup [.int .i64 fv, .bool fb] ∧ rs = []) ∧ AFn Tryd.prog 39 [.int .i64 y] [] (fun v rs => v = .tup [.int .i64 fv, .bool fb] ∧ rs = []) := by
            by_cases h : okY y
            · have e := Easter_yes y h
              rw [show dayP y (eaN y / 31) (eaN y % 31 + 1) = easP y from rfl, (eas_ok (y := y) h.1 h.2).1] at e
              exact ⟨_, _, e, rEaster_yes y h⟩
            · exact ⟨_, _, Easter_no y h, rEaster_no y h⟩
          refine callC_det hF rfl rfl ?_
          simp only [go_sem, Nat.reduceAdd, Nat.reduceSub, Nat.reduceMul, Nat.reduceEqDiff, Nat.reduceLT, Nat.reduceLeDiff, Nat.reduceBEq, reduceIte, reduceCtorEq, Int.reduceToNat, Int.reduceLE, Int.reduceLT, Int.reduceBEq, Int.reduceBNe]
          refine callC_det hR rfl rfl ?_
          simp only [go_sem, Nat.reduceAdd, Nat.reduceSub, Nat.reduceMul, Nat.reduceEqDiff, Nat.reduceLT, Nat.reduceLeDiff, Nat.reduceBEq, reduceIte, reduceCtorEq, Int.reduceToNat, Int.reduceLE, Int.reduceLT, Int.reduceBEq, Int.reduceBNe, bne_self_eq_false, hw1]
          refine Cl.here ⟨⟨i + 1, by omega, rfl, rfl⟩, ?_⟩
          simp only [go_sem, Nat.reduceAdd, Nat.reduceSub, Nat.reduceMul, Nat.reduceEqDiff, Nat.reduceLT, Nat.reduceLeDiff, Nat.reduceBEq, reduceIte, reduceCtorEq, Int.reduceToNat, Int.reduceLE, Int.reduceLT, Int.reduceBEq, Int.reduceBNe]
          omega
        · simp only [go_sem, Nat.reduceAdd, Nat.reduceSub, Nat.reduceMul, Nat.reduceEqDiff, Nat.reduceLT, Nat.reduceLeDiff, Nat.reduceBEq, reduceIte, reduceCtorEq, Int.reduceToNat, Int.reduceLE, Int.reduceLT, Int.reduceBEq, Int.reduceBNe, a5, a5r0, a5r1, a5r2, a5r3, a5r4, a5r5, a5r6, a5r7, a5r8, a5r9, a5r10, a5r11, a5r12, a5r13, a5r14, a5r15, a5r16, a5r17, show ((2 : Nat) : Int) = 2 from rfl]
          refine callC_det sane_ok rfl rfl ?_
          simp only [go_sem, Nat.reduceAdd, Nat.reduceSub, Nat.reduceMul, Nat.reduceEqDiff, Nat.reduceLT, Nat.reduceLeDiff, Nat.reduceBEq, reduceIte, reduceCtorEq, Int.reduceToNat, Int.reduceLE, Int.reduceLT, Int.reduceBEq, Int.reduceBNe]
          exact Cl.fin rfl rfl

end Go.Proofs.YtpmlihjdegekgaaDoor
