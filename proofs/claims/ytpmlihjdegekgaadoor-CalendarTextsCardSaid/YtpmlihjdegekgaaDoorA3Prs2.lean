/- The texts of days: the reference's Parse (printed by genprs.py). -/
import Derived.Test.YtpmlihjdegekgaaDoorA3Prs
import Derived.Test.YtpmlihjdegekgaaDoorA3RForms
set_option linter.unusedSimpArgs false
set_option linter.unusedVariables false
set_option linter.unusedSectionVars false
namespace Go.Proofs.YtpmlihjdegekgaaDoor
open Go Go.Abs
set_option linter.unusedSimpArgs false
set_option linter.unusedVariables false

def prR (D1 D2 D3 : Option Int) (i : Nat) (a b c : Int) : Prop := (i = 0 ∧ a = 0 ∧ b = 0 ∧ c = 0) ∨ (i = 1 ∧ D1 = some a ∧ b = 0 ∧ c = 0) ∨ (i = 2 ∧ D1 = some a ∧ D2 = some b ∧ c = 0) ∨ (i = 3 ∧ D1 = some a ∧ D2 = some b ∧ D3 = some c)
theorem rparse_ok (s : ByteArray) : AFn Tryd.prog 42 [.str s] [] (fun v rs => v = .tup [.int .i64 (parseP s).1, .bool (parseP s).2] ∧ rs = []) := by
  refine afn Tryd.func42 a42_ok (by simp [a42]) ?_
  have hbad : ¬ (s.size = 10 ∧ byt s 4 = 45 ∧ byt s 7 = 45) → parseP s = (0, false) := fun h => by rw [parseP, if_neg h]
  by_cases c0 : s.size = 10
  rotate_left
  · have h0 : ((s.size : Int) != 10) = true := by simp; omega
    rw [hbad (by simp [c0])]
    simp only [go_sem, Nat.reduceAdd, Nat.reduceSub, Nat.reduceMul, Nat.reduceEqDiff, Nat.reduceLT, Nat.reduceLeDiff, Nat.reduceBEq, reduceIte, reduceCtorEq, Int.reduceToNat, Int.reduceLE, Int.reduceLT, Int.reduceBEq, Int.reduceBNe, a42, a42r0, a42r1, a42r2, a42r3, a42r4, a42r5, a42r6, a42r7, a42r8, a42r9, a42r10, a42r11, a42r12, a42r13, a42r14, a42r15, a42r16, a42r17, h0]
    exact Cl.fin rfl ⟨rfl, rfl⟩
  have h0 : ((s.size : Int) = 10) := by omega
  have z1 : (s.extract 0 4).size ≤ 4 := by rw [ByteArray.size_extract]; omega
  have z2 : (s.extract 5 7).size ≤ 4 := by rw [ByteArray.size_extract]; omega
  have z3 : (s.extract 8 10).size ≤ 4 := by rw [ByteArray.size_extract]; omega
  have hn1 : digP (s.extract 0 4) = none → parseP s = (0, false) := fun h => by rw [parseP, h]; split <;> rfl
  have hn2 : digP (s.extract 5 7) = none → parseP s = (0, false) := fun h => by rw [parseP, h]; cases digP (s.extract 0 4) <;> exact ite_self _
  have hn3 : digP (s.extract 8 10) = none → parseP s = (0, false) := fun h => by rw [parseP, h]; cases digP (s.extract 0 4) <;> cases digP (s.extract 5 7) <;> exact ite_self _
  have hyes : ∀ {y m d}, digP (s.extract 0 4) = some y → digP (s.extract 5 7) = some m → digP (s.extract 8 10) = some d → byt s 4 = 45 → byt s 7 = 45 → parseP s = dayP y m d := fun h1 h2 h3 h4 h5 => by
    rw [parseP, if_pos ⟨c0, h4, h5⟩, h1, h2, h3]
  have q4 : ((s.data.getD 4 0).toNat : Int) = byt s 4 := rfl
  have q7 : ((s.data.getD 7 0).toNat : Int) = byt s 7 := rfl
  simp only [go_sem, Nat.reduceAdd, Nat.reduceSub, Nat.reduceMul, Nat.reduceEqDiff, Nat.reduceLT, Nat.reduceLeDiff, Nat.reduceBEq, reduceIte, reduceCtorEq, Int.reduceToNat, Int.reduceLE, Int.reduceLT, Int.reduceBEq, Int.reduceBNe, a42, a42r0, a42r1, a42r2, a42r3, a42r4, a42r5, a42r6, a42r7, a42r8, a42r9, a42r10, a42r11, a42r12, a42r13, a42r14, a42r15, a42r16, a42r17, h0]
  generalize s.extract 0 4 = p1 at z1 hn1 hyes ⊢
  generalize s.extract 5 7 = p2 at z2 hn2 hyes ⊢
  generalize s.extract 8 10 = p3 at z3 hn3 hyes ⊢
  refine avc_loop (fun env rows => ∃ (i : Nat) (a b c : Int), prR (digP p1) (digP p2) (digP p3) i a b c ∧ env = [(0, .str s), (4, .ref 0 1 0 0), (20, .own 1 3 0 3), (21, .int .i64 3), (22, .int .i64 (i : Int))] ∧
      rows = [.live 64 3 [[.int .i64 a, .int .i64 b, .int .i64 c]], .live 9 1 [[.str p1], [.str p2], [.str p3]]])
    (fun env _ => match slot env 22 with | .int _ j => 3 - j.toNat | _ => 0) ?_ ?_
  · exact Cl.here ⟨0, 0, 0, 0, .inl ⟨rfl, rfl, rfl, rfl⟩, rfl, rfl⟩
  · rintro env rows ⟨i, N0, N1, N2, hR, rfl, rfl⟩
    rcases hR with ⟨rfl, rfl, rfl, rfl⟩ | ⟨rfl, r1, rfl, rfl⟩ | ⟨rfl, r1, r2, rfl⟩ | ⟨rfl, r1, r2, r3⟩
    · simp only [go_sem, Nat.reduceAdd, Nat.reduceSub, Nat.reduceMul, Nat.reduceEqDiff, Nat.reduceLT, Nat.reduceLeDiff, Nat.reduceBEq, reduceIte, reduceCtorEq, Int.reduceToNat, Int.reduceLE, Int.reduceLT, Int.reduceBEq, Int.reduceBNe, a42, a42r0, a42r1, a42r2, a42r3, a42r4, a42r5, a42r6, a42r7, a42r8, a42r9, a42r10, a42r11, a42r12, a42r13, a42r14, a42r15, a42r16, a42r17]
      refine avc_loop (fun env rows => ∃ (j : Nat) (n : Int), j ≤ p1.size ∧ smallN j n ∧ dg n ((dl p1).drop j) = digP p1 ∧ env = [(0, .str s), (4, .ref 0 1 0 0), (5, .int .i64 0), (6, .str p1), (7, .int .i64 (j : Int)), (20, .own 1 3 0 3), (21, .int .i64 3), (22, .int .i64 0)] ∧
          rows = [.live 64 3 [[.int .i64 n, .int .i64 0, .int .i64 0]], .live 9 1 [[.str p1], [.str p2], [.str p3]]])
        (fun env _ => match slot env 7 with | .int _ j => p1.size - j.toNat | _ => 0) ?_ ?_
      · exact Cl.here ⟨0, 0, Nat.zero_le _, ⟨by omega, by omega⟩, rfl, rfl, rfl⟩
      · rintro env rows ⟨j, n, hj, hn, hd, rfl, rfl⟩
        have hc : j = p1.size ∨ j < p1.size := by omega
        rcases hc with hc | hc
        · have h1 : ¬ ((j : Int) < (p1.size : Int)) := by omega
          rw [hc, dl_end, dg] at hd
          simp only [go_sem, Nat.reduceAdd, Nat.reduceSub, Nat.reduceMul, Nat.reduceEqDiff, Nat.reduceLT, Nat.reduceLeDiff, Nat.reduceBEq, reduceIte, reduceCtorEq, Int.reduceToNat, Int.reduceLE, Int.reduceLT, Int.reduceBEq, Int.reduceBNe, h1]
          refine Cl.here ⟨⟨1, n, 0, 0, (.inr (.inl ⟨rfl, hd.symm, rfl, rfl⟩)), rfl, rfl⟩, ?_⟩
          simp only [go_sem, Nat.reduceAdd, Nat.reduceSub, Nat.reduceMul, Nat.reduceEqDiff, Nat.reduceLT, Nat.reduceLeDiff, Nat.reduceBEq, reduceIte, reduceCtorEq, Int.reduceToNat, Int.reduceLE, Int.reduceLT, Int.reduceBEq, Int.reduceBNe]
          decide
        · have h1 : ((j : Int) < (p1.size : Int)) := by omega
          have h2 : (0 : Int) ≤ (j : Int) := by omega
          rw [dl_drop hc] at hd
          have hb := byt_bd p1 j
          generalize hB : byt p1 j = b at hd hb
          have hB' : ((p1.data.getD j 0).toNat : Int) = b := hB
          by_cases c1 : b < 48
          · rw [dg, if_pos (.inl c1)] at hd
            rw [hn1 hd.symm]
            simp only [go_sem, Nat.reduceAdd, Nat.reduceSub, Nat.reduceMul, Nat.reduceEqDiff, Nat.reduceLT, Nat.reduceLeDiff, Nat.reduceBEq, reduceIte, reduceCtorEq, Int.reduceToNat, Int.reduceLE, Int.reduceLT, Int.reduceBEq, Int.reduceBNe, h1, h2, Int.toNat_natCast, hB', c1]
            exact Cl.fin rfl ⟨rfl, rfl⟩
          · by_cases c2 : 57 < b
            · rw [dg, if_pos (.inr c2)] at hd
              rw [hn1 hd.symm]
              simp only [go_sem, Nat.reduceAdd, Nat.reduceSub, Nat.reduceMul, Nat.reduceEqDiff, Nat.reduceLT, Nat.reduceLeDiff, Nat.reduceBEq, reduceIte, reduceCtorEq, Int.reduceToNat, Int.reduceLE, Int.reduceLT, Int.reduceBEq, Int.reduceBNe, h1, h2, Int.toNat_natCast, hB', c1, c2]
              exact Cl.fin rfl ⟨rfl, rfl⟩
            · rw [dg, if_neg (by omega)] at hd
              have hst := smallN_step (b := b) hn (by omega) (by omega) (by omega)
              have hn' := hn
              unfold smallN at hn'
              have w1 : IntKind.u8.wrap (b - 48) = b - 48 := by rw [wrap_u8, Int.emod_eq_of_lt (by omega) (by omega)]
              have w2 : IntKind.i64.wrap (b - 48) = b - 48 := wrap_i64 (by omega) (by omega)
              have w3 : IntKind.i64.wrap (n * 10) = 10 * n := by rw [wrap_i64 (by omega) (by omega)]; omega
              have w4 : IntKind.i64.wrap (10 * n + (b - 48)) = 10 * n + (b - 48) := wrap_i64 (by omega) (by omega)
              have w5 : IntKind.i64.wrap ((j : Int) + 1) = (j : Int) + 1 := wrap_i64 (by omega) (by omega)
              simp only [go_sem, Nat.reduceAdd, Nat.reduceSub, Nat.reduceMul, Nat.reduceEqDiff, Nat.reduceLT, Nat.reduceLeDiff, Nat.reduceBEq, reduceIte, reduceCtorEq, Int.reduceToNat, Int.reduceLE, Int.reduceLT, Int.reduceBEq, Int.reduceBNe, h1, h2, Int.toNat_natCast, hB', c1, c2, w1, w2, w3, w4, w5]
              refine Cl.here ⟨⟨j + 1, _, by omega, hst, hd, rfl, rfl⟩, ?_⟩
              simp only [go_sem, Nat.reduceAdd, Nat.reduceSub, Nat.reduceMul, Nat.reduceEqDiff, Nat.reduceLT, Nat.reduceLeDiff, Nat.reduceBEq, reduceIte, reduceCtorEq, Int.reduceToNat, Int.reduceLE, Int.reduceLT, Int.reduceBEq, Int.reduceBNe]
              omega
    · simp only [go_sem, Nat.reduceAdd, Nat.reduceSub, Nat.reduceMul, Nat.reduceEqDiff, Nat.reduceLT, Nat.reduceLeDiff, Nat.reduceBEq, reduceIte, reduceCtorEq, Int.reduceToNat, Int.reduceLE, Int.reduceLT, Int.reduceBEq, Int.reduceBNe, a42, a42r0, a42r1, a42r2, a42r3, a42r4, a42r5, a42r6, a42r7, a42r8, a42r9, a42r10, a42r11, a42r12, a42r13, a42r14, a42r15, a42r16, a42r17]
      refine avc_loop (fun env rows => ∃ (j : Nat) (n : Int), j ≤ p2.size ∧ smallN j n ∧ dg n ((dl p2).drop j) = digP p2 ∧ env = [(0, .str s), (4, .ref 0 1 0 0), (5, .int .i64 1), (6, .str p2), (7, .int .i64 (j : Int)), (20, .own 1 3 0 3), (21, .int .i64 3), (22, .int .i64 1)] ∧
          rows = [.live 64 3 [[.int .i64 N0, .int .i64 n, .int .i64 0]], .live 9 1 [[.str p1], [.str p2], [.str p3]]])
        (fun env _ => match slot env 7 with | .int _ j => p2.size - j.toNat | _ => 0) ?_ ?_
      · exact Cl.here ⟨0, 0, Nat.zero_le _, ⟨by omega, by omega⟩, rfl, rfl, rfl⟩
      · rintro env rows ⟨j, n, hj, hn, hd, rfl, rfl⟩
        have hc : j = p2.size ∨ j < p2.size := by omega
        rcases hc with hc | hc
        · have h1 : ¬ ((j : Int) < (p2.size : Int)) := by omega
          rw [hc, dl_end, dg] at hd
          simp only [go_sem, Nat.reduceAdd, Nat.reduceSub, Nat.reduceMul, Nat.reduceEqDiff, Nat.reduceLT, Nat.reduceLeDiff, Nat.reduceBEq, reduceIte, reduceCtorEq, Int.reduceToNat, Int.reduceLE, Int.reduceLT, Int.reduceBEq, Int.reduceBNe, h1]
          refine Cl.here ⟨⟨2, N0, n, 0, (.inr (.inr (.inl ⟨rfl, r1, hd.symm, rfl⟩))), rfl, rfl⟩, ?_⟩
          simp only [go_sem, Nat.reduceAdd, Nat.reduceSub, Nat.reduceMul, Nat.reduceEqDiff, Nat.reduceLT, Nat.reduceLeDiff, Nat.reduceBEq, reduceIte, reduceCtorEq, Int.reduceToNat, Int.reduceLE, Int.reduceLT, Int.reduceBEq, Int.reduceBNe]
          decide
        · have h1 : ((j : Int) < (p2.size : Int)) := by omega
          have h2 : (0 : Int) ≤ (j : Int) := by omega
          rw [dl_drop hc] at hd
          have hb := byt_bd p2 j
          generalize hB : byt p2 j = b at hd hb
          have hB' : ((p2.data.getD j 0).toNat : Int) = b := hB
          by_cases c1 : b < 48
          · rw [dg, if_pos (.inl c1)] at hd
            rw [hn2 hd.symm]
            simp only [go_sem, Nat.reduceAdd, Nat.reduceSub, Nat.reduceMul, Nat.reduceEqDiff, Nat.reduceLT, Nat.reduceLeDiff, Nat.reduceBEq, reduceIte, reduceCtorEq, Int.reduceToNat, Int.reduceLE, Int.reduceLT, Int.reduceBEq, Int.reduceBNe, h1, h2, Int.toNat_natCast, hB', c1]
            exact Cl.fin rfl ⟨rfl, rfl⟩
          · by_cases c2 : 57 < b
            · rw [dg, if_pos (.inr c2)] at hd
              rw [hn2 hd.symm]
              simp only [go_sem, Nat.reduceAdd, Nat.reduceSub, Nat.reduceMul, Nat.reduceEqDiff, Nat.reduceLT, Nat.reduceLeDiff, Nat.reduceBEq, reduceIte, reduceCtorEq, Int.reduceToNat, Int.reduceLE, Int.reduceLT, Int.reduceBEq, Int.reduceBNe, h1, h2, Int.toNat_natCast, hB', c1, c2]
              exact Cl.fin rfl ⟨rfl, rfl⟩
            · rw [dg, if_neg (by omega)] at hd
              have hst := smallN_step (b := b) hn (by omega) (by omega) (by omega)
              have hn' := hn
              unfold smallN at hn'
              have w1 : IntKind.u8.wrap (b - 48) = b - 48 := by rw [wrap_u8, Int.emod_eq_of_lt (by omega) (by omega)]
              have w2 : IntKind.i64.wrap (b - 48) = b - 48 := wrap_i64 (by omega) (by omega)
              have w3 : IntKind.i64.wrap (n * 10) = 10 * n := by rw [wrap_i64 (by omega) (by omega)]; omega
              have w4 : IntKind.i64.wrap (10 * n + (b - 48)) = 10 * n + (b - 48) := wrap_i64 (by omega) (by omega)
              have w5 : IntKind.i64.wrap ((j : Int) + 1) = (j : Int) + 1 := wrap_i64 (by omega) (by omega)
              simp only [go_sem, Nat.reduceAdd, Nat.reduceSub, Nat.reduceMul, Nat.reduceEqDiff, Nat.reduceLT, Nat.reduceLeDiff, Nat.reduceBEq, reduceIte, reduceCtorEq, Int.reduceToNat, Int.reduceLE, Int.reduceLT, Int.reduceBEq, Int.reduceBNe, h1, h2, Int.toNat_natCast, hB', c1, c2, w1, w2, w3, w4, w5]
              refine Cl.here ⟨⟨j + 1, _, by omega, hst, hd, rfl, rfl⟩, ?_⟩
              simp only [go_sem, Nat.reduceAdd, Nat.reduceSub, Nat.reduceMul, Nat.reduceEqDiff, Nat.reduceLT, Nat.reduceLeDiff, Nat.reduceBEq, reduceIte, reduceCtorEq, Int.reduceToNat, Int.reduceLE, Int.reduceLT, Int.reduceBEq, Int.reduceBNe]
              omega
    · simp only [go_sem, Nat.reduceAdd, Nat.reduceSub, Nat.reduceMul, Nat.reduceEqDiff, Nat.reduceLT, Nat.reduceLeDiff, Nat.reduceBEq, reduceIte, reduceCtorEq, Int.reduceToNat, Int.reduceLE, Int.reduceLT, Int.reduceBEq, Int.reduceBNe, a42, a42r0, a42r1, a42r2, a42r3, a42r4, a42r5, a42r6, a42r7, a42r8, a42r9, a42r10, a42r11, a42r12, a42r13, a42r14, a42r15, a42r16, a42r17]
      refine avc_loop (fun env rows => ∃ (j : Nat) (n : Int), j ≤ p3.size ∧ smallN j n ∧ dg n ((dl p3).drop j) = digP p3 ∧ env = [(0, .str s), (4, .ref 0 1 0 0), (5, .int .i64 2), (6, .str p3), (7, .int .i64 (j : Int)), (20, .own 1 3 0 3), (21, .int .i64 3), (22, .int .i64 2)] ∧
          rows = [.live 64 3 [[.int .i64 N0, .int .i64 N1, .int .i64 n]], .live 9 1 [[.str p1], [.str p2], [.str p3]]])
        (fun env _ => match slot env 7 with | .int _ j => p3.size - j.toNat | _ => 0) ?_ ?_
      · exact Cl.here ⟨0, 0, Nat.zero_le _, ⟨by omega, by omega⟩, rfl, rfl, rfl⟩
      · rintro env rows ⟨j, n, hj, hn, hd, rfl, rfl⟩
        have hc : j = p3.size ∨ j < p3.size := by omega
        rcases hc with hc | hc
        · have h1 : ¬ ((j : Int) < (p3.size : Int)) := by omega
          rw [hc, dl_end, dg] at hd
          simp only [go_sem, Nat.reduceAdd, Nat.reduceSub, Nat.reduceMul, Nat.reduceEqDiff, Nat.reduceLT, Nat.reduceLeDiff, Nat.reduceBEq, reduceIte, reduceCtorEq, Int.reduceToNat, Int.reduceLE, Int.reduceLT, Int.reduceBEq, Int.reduceBNe, h1]
          refine Cl.here ⟨⟨3, N0, N1, n, (.inr (.inr (.inr ⟨rfl, r1, r2, hd.symm⟩))), rfl, rfl⟩, ?_⟩
          simp only [go_sem, Nat.reduceAdd, Nat.reduceSub, Nat.reduceMul, Nat.reduceEqDiff, Nat.reduceLT, Nat.reduceLeDiff, Nat.reduceBEq, reduceIte, reduceCtorEq, Int.reduceToNat, Int.reduceLE, Int.reduceLT, Int.reduceBEq, Int.reduceBNe]
          decide
        · have h1 : ((j : Int) < (p3.size : Int)) := by omega
          have h2 : (0 : Int) ≤ (j : Int) := by omega
          rw [dl_drop hc] at hd
          have hb := byt_bd p3 j
          generalize hB : byt p3 j = b at hd hb
          have hB' : ((p3.data.getD j 0).toNat : Int) = b := hB
          by_cases c1 : b < 48
          · rw [dg, if_pos (.inl c1)] at hd
            rw [hn3 hd.symm]
            simp only [go_sem, Nat.reduceAdd, Nat.reduceSub, Nat.reduceMul, Nat.reduceEqDiff, Nat.reduceLT, Nat.reduceLeDiff, Nat.reduceBEq, reduceIte, reduceCtorEq, Int.reduceToNat, Int.reduceLE, Int.reduceLT, Int.reduceBEq, Int.reduceBNe, h1, h2, Int.toNat_natCast, hB', c1]
            exact Cl.fin rfl ⟨rfl, rfl⟩
          · by_cases c2 : 57 < b
            · rw [dg, if_pos (.inr c2)] at hd
              rw [hn3 hd.symm]
              simp only [go_sem, Nat.reduceAdd, Nat.reduceSub, Nat.reduceMul, Nat.reduceEqDiff, Nat.reduceLT, Nat.reduceLeDiff, Nat.reduceBEq, reduceIte, reduceCtorEq, Int.reduceToNat, Int.reduceLE, Int.reduceLT, Int.reduceBEq, Int.reduceBNe, h1, h2, Int.toNat_natCast, hB', c1, c2]
              exact Cl.fin rfl ⟨rfl, rfl⟩
            · rw [dg, if_neg (by omega)] at hd
              have hst := smallN_step (b := b) hn (by omega) (by omega) (by omega)
              have hn' := hn
              unfold smallN at hn'
              have w1 : IntKind.u8.wrap (b - 48) = b - 48 := by rw [wrap_u8, Int.emod_eq_of_lt (by omega) (by omega)]
              have w2 : IntKind.i64.wrap (b - 48) = b - 48 := wrap_i64 (by omega) (by omega)
              have w3 : IntKind.i64.wrap (n * 10) = 10 * n := by rw [wrap_i64 (by omega) (by omega)]; omega
              have w4 : IntKind.i64.wrap (10 * n + (b - 48)) = 10 * n + (b - 48) := wrap_i64 (by omega) (by omega)
              have w5 : IntKind.i64.wrap ((j : Int) + 1) = (j : Int) + 1 := wrap_i64 (by omega) (by omega)
              simp only [go_sem, Nat.reduceAdd, Nat.reduceSub, Nat.reduceMul, Nat.reduceEqDiff, Nat.reduceLT, Nat.reduceLeDiff, Nat.reduceBEq, reduceIte, reduceCtorEq, Int.reduceToNat, Int.reduceLE, Int.reduceLT, Int.reduceBEq, Int.reduceBNe, h1, h2, Int.toNat_natCast, hB', c1, c2, w1, w2, w3, w4, w5]
              refine Cl.here ⟨⟨j + 1, _, by omega, hst, hd, rfl, rfl⟩, ?_⟩
              simp only [go_sem, Nat.reduceAdd, Nat.reduceSub, Nat.reduceMul, Nat.reduceEqDiff, Nat.reduceLT, Nat.reduceLeDiff, Nat.reduceBEq, reduceIte, reduceCtorEq, Int.reduceToNat, Int.reduceLE, Int.reduceLT, Int.reduceBEq, Int.reduceBNe]
              omega
    · simp only [go_sem, Nat.reduceAdd, Nat.reduceSub, Nat.reduceMul, Nat.reduceEqDiff, Nat.reduceLT, Nat.reduceLeDiff, Nat.reduceBEq, reduceIte, reduceCtorEq, Int.reduceToNat, Int.reduceLE, Int.reduceLT, Int.reduceBEq, Int.reduceBNe, a42, a42r0, a42r1, a42r2, a42r3, a42r4, a42r5, a42r6, a42r7, a42r8, a42r9, a42r10, a42r11, a42r12, a42r13, a42r14, a42r15, a42r16, a42r17]
      refine callC_det (rDay_ok N0 N1 N2) rfl rfl ?_
      by_cases hok : (dayP N0 N1 N2).2 = true
      rotate_left
      · have hok' : (dayP N0 N1 N2).2 = false := by simpa using hok
        have hz : parseP s = (0, false) := by
          by_cases cc : byt s 4 = 45 ∧ byt s 7 = 45
          · rw [hyes r1 r2 r3 cc.1 cc.2]
            rw [dayP] at hok ⊢
            split at hok
            · exact absurd rfl hok
            · rename_i hh; rw [if_neg hh]
          · exact hbad (fun h => cc h.2)
        rw [hz]
        simp only [go_sem, Nat.reduceAdd, Nat.reduceSub, Nat.reduceMul, Nat.reduceEqDiff, Nat.reduceLT, Nat.reduceLeDiff, Nat.reduceBEq, reduceIte, reduceCtorEq, Int.reduceToNat, Int.reduceLE, Int.reduceLT, Int.reduceBEq, Int.reduceBNe, hok']
        exact Cl.fin rfl ⟨rfl, rfl⟩
      · by_cases c4 : byt s 4 = 45
        rotate_left
        · have c4' : (byt s 4 != 45) = true := by simp [c4]
          rw [hbad (fun h => c4 h.2.1)]
          simp only [go_sem, Nat.reduceAdd, Nat.reduceSub, Nat.reduceMul, Nat.reduceEqDiff, Nat.reduceLT, Nat.reduceLeDiff, Nat.reduceBEq, reduceIte, reduceCtorEq, Int.reduceToNat, Int.reduceLE, Int.reduceLT, Int.reduceBEq, Int.reduceBNe, hok, h0, q4, c4']
          exact Cl.fin rfl ⟨rfl, rfl⟩
        by_cases c7 : byt s 7 = 45
        rotate_left
        · have c7' : (byt s 7 != 45) = true := by simp [c7]
          rw [hbad (fun h => c7 h.2.2)]
          simp only [go_sem, Nat.reduceAdd, Nat.reduceSub, Nat.reduceMul, Nat.reduceEqDiff, Nat.reduceLT, Nat.reduceLeDiff, Nat.reduceBEq, reduceIte, reduceCtorEq, Int.reduceToNat, Int.reduceLE, Int.reduceLT, Int.reduceBEq, Int.reduceBNe, hok, h0, q4, c4, q7, c7']
          exact Cl.fin rfl ⟨rfl, rfl⟩
        rw [hyes r1 r2 r3 c4 c7]
        simp only [go_sem, Nat.reduceAdd, Nat.reduceSub, Nat.reduceMul, Nat.reduceEqDiff, Nat.reduceLT, Nat.reduceLeDiff, Nat.reduceBEq, reduceIte, reduceCtorEq, Int.reduceToNat, Int.reduceLE, Int.reduceLT, Int.reduceBEq, Int.reduceBNe, hok, h0, q4, c4, q7, c7]
        exact Cl.fin rfl ⟨rfl, rfl⟩
end Go.Proofs.YtpmlihjdegekgaaDoor
