/- CalendarLimits: the walk. -/
import Derived.Test.YtpmlihjdegekgaaDoorA3Ref7
import Derived.Test.YtpmlihjdegekgaaDoorA3Tape
set_option linter.unusedSimpArgs false
set_option linter.unusedVariables false
set_option linter.unusedSectionVars false
namespace Go.Proofs.YtpmlihjdegekgaaDoor
open Go Go.Abs
set_option linter.unusedSimpArgs false
set_option linter.unusedVariables false

def dayRule (i : Int) : Hol := ⟨0, 1 + i % 12, 1 + i % 28, 0, 0, false⟩
theorem dayRule_ok (i : Int) : ruleP (dayRule i) = true := by
  rw [dayRule, ruleP_iff]
  left
  have hb : 28 ≤ lens29 (1 + i % 12) := by
    rw [← lens29_eq (by omega) (by omega)]
    exact (lenP_bd (by omega) (by omega)).1
  omega
theorem validL_snoc2 {l : List Hol} {h : Hol} (hl : validL l = true) (hh : ruleP h = true) : validL (l ++ [h]) = true := by
  unfold validL at *
  rw [List.all_append, hl]
  simp [hh]
/-- both answers about holidays, compared -/
def hoL (l : List Hol) (y : Int) : List Int := if validP l = 0 then (if okY y then colP l y y else []) else []
def hoE (l : List Hol) (y : Int) : Int := if validP l = 0 then (if okY y then 0 else 2) else validP l
theorem hoV_le (l : List Hol) (y : Int) : le (hoV l y) (.tup [.pure 1 (numsE .i64 (hoL l y)), .int .i64 (hoE l y)]) := by
  unfold hoV hoL hoE
  split
  · split <;> simp [le, leL, numsE]
  · simp [le, leL, numsE]

theorem hoV_rep {C : Ctx} {l : List Hol} {y : Int} {v : Value} (h : Rep C (hoV l y) v) : Rep C (.tup [.pure 1 (numsE .i64 (hoL l y)), .int .i64 (hoE l y)]) v := rep_le _ _ _ (hoV_le l y) h
theorem AFn.answer {P : Program} {f : FuncId} {args : List AVal} {rows : List Row} {v w : AVal} (h : AFn P f args rows fun x rs => x = v ∧ rs = []) (hw : le v w) : AFn P f args rows fun x rs => x = w ∧ rs = [] := by
  intro C cargs h1 h2 hG h3
  refine (h C cargs h1 h2 hG h3).mono ?_
  rintro e w' ⟨cv, x, C', a, b, c, d, e', rfl, q⟩
  exact ⟨cv, w, C', a, b, rep_le _ _ _ hw c, d, e', rfl, q⟩
theorem Holidays_ok2 (l : List Hol) (hl : l.length ≤ 9223372036854775806) (y : Int) : AFn Tryd.prog 13 [.pure 6 (els l), .int .i64 y] [] (fun v rs => v = .tup [.pure 1 (numsE .i64 (hoL l y)), .int .i64 (hoE l y)] ∧ rs = []) := AFn.answer (Holidays_ok l hl y) (hoV_le l y)
theorem rHolidays_ok2 (l : List Hol) (hl : l.length ≤ 9223372036854775806) (y : Int) : AFn Tryd.prog 14 [.pure 6 (els l), .int .i64 y] [] (fun v rs => v = .tup [.pure 1 (numsE .i64 (hoL l y)), .int .i64 (hoE l y)] ∧ rs = []) := AFn.answer (rHolidays_ok l hl y) (hoV_le l y)
theorem hoL_length (l : List Hol) (y : Int) : (hoL l y).length ≤ 235520 := by
  unfold hoL
  split
  · rename_i h
    split
    · rename_i hy
      exact colP_length l y y (validP_zero h).1 hy.1 hy.2
    · simp
  · simp

theorem calendarLimits (n year : Int) : AFn Tryd.prog 3 [.int .i64 n, .int .i64 year] [] (fun v _ => v = .bool true) := by
  refine afnW Tryd.func3 a3_ok (by simp [a3]) ?_
  simp only [go_sem, Nat.reduceAdd, Nat.reduceSub, Nat.reduceMul, Nat.reduceEqDiff, Nat.reduceLT, Nat.reduceLeDiff, Nat.reduceBEq, reduceIte, reduceCtorEq, Int.reduceToNat, Int.reduceLE, Int.reduceLT, Int.reduceBEq, Int.reduceBNe, a3, a3r0, a3r1, a3r2, a3r3, a3r4, a3r5, a3r6, a3r7, a3r8, a3r9]
  repeat (refine Cl.here ?_; simp only [go_sem, Nat.reduceAdd, Nat.reduceSub, Nat.reduceMul, Nat.reduceEqDiff, Nat.reduceLT, Nat.reduceLeDiff, Nat.reduceBEq, reduceIte, reduceCtorEq, Int.reduceToNat, Int.reduceLE, Int.reduceLT, Int.reduceBEq, Int.reduceBNe])
  refine callC_det (mod_ok n 3 (by omega) (by omega)) rfl rfl ?_
  have hm := mod_bounds (v := n) (n := 3) (by omega)
  generalize mod n 3 = m at hm ⊢
  simp only [go_sem, Nat.reduceAdd, Nat.reduceSub, Nat.reduceMul, Nat.reduceEqDiff, Nat.reduceLT, Nat.reduceLeDiff, Nat.reduceBEq, reduceIte, reduceCtorEq, Int.reduceToNat, Int.reduceLE, Int.reduceLT, Int.reduceBEq, Int.reduceBNe]
  rw [wrap_i64 (by omega) (by omega)]
  repeat (refine Cl.here ?_; simp only [go_sem, Nat.reduceAdd, Nat.reduceSub, Nat.reduceMul, Nat.reduceEqDiff, Nat.reduceLT, Nat.reduceLeDiff, Nat.reduceBEq, reduceIte, reduceCtorEq, Int.reduceToNat, Int.reduceLE, Int.reduceLT, Int.reduceBEq, Int.reduceBNe])
  refine avcW_loop (fun env rows => ∃ (i : Nat) (l : List Hol), l.length + i ≤ 1025 ∧ validL l = true ∧ env = [(1, .int .i64 year), (5, .own 0 l.length 0 l.length), (6, .int .i64 i)] ∧ rows = [.live 25 6 (els l)])
    (fun env _ => match slot env 6 with | .int _ j => j.toNat | _ => 0) ?_ ?_
  · (refine Cl.ghost 5  25  6 rfl (Cl.norm [ 1, 5, 6] ?_); simp only [go_sem, Nat.reduceAdd, Nat.reduceSub, Nat.reduceMul, Nat.reduceEqDiff, Nat.reduceLT, Nat.reduceLeDiff, Nat.reduceBEq, reduceIte, reduceCtorEq, Int.reduceToNat, Int.reduceLE, Int.reduceLT, Int.reduceBEq, Int.reduceBNe])
    refine Cl.here ⟨(1023 + m).toNat, [], by simp; omega, rfl, ?_, rfl⟩
    rw [show (((1023 + m).toNat : Nat) : Int) = 1023 + m from by omega]
    rfl
  · rintro env rows ⟨i, l, hl, hv, rfl, rfl⟩
    simp only [go_sem, Nat.reduceAdd, Nat.reduceSub, Nat.reduceMul, Nat.reduceEqDiff, Nat.reduceLT, Nat.reduceLeDiff, Nat.reduceBEq, reduceIte, reduceCtorEq, Int.reduceToNat, Int.reduceLE, Int.reduceLT, Int.reduceBEq, Int.reduceBNe, a3, a3r0, a3r1, a3r2, a3r3, a3r4, a3r5, a3r6, a3r7, a3r8, a3r9]
    repeat (refine Cl.here ?_; simp only [go_sem, Nat.reduceAdd, Nat.reduceSub, Nat.reduceMul, Nat.reduceEqDiff, Nat.reduceLT, Nat.reduceLeDiff, Nat.reduceBEq, reduceIte, reduceCtorEq, Int.reduceToNat, Int.reduceLE, Int.reduceLT, Int.reduceBEq, Int.reduceBNe])
    refine condW_intro ?_ ?_ <;> intro hg1 <;> simp only [decide_eq_true_eq, decide_eq_false_iff_not, beq_iff_eq, beq_eq_false_iff_ne, bne_iff_ne, bne_eq_false_iff_eq, Bool.not_eq_true', Bool.not_eq_false', Int.not_lt, Int.not_le, ne_eq, Bool.and_eq_true, Bool.or_eq_true, Bool.or_eq_false_iff, Bool.and_eq_false_iff] at hg1 <;> simp only [go_sem, Nat.reduceAdd, Nat.reduceSub, Nat.reduceMul, Nat.reduceEqDiff, Nat.reduceLT, Nat.reduceLeDiff, Nat.reduceBEq, reduceIte, reduceCtorEq, Int.reduceToNat, Int.reduceLE, Int.reduceLT, Int.reduceBEq, Int.reduceBNe, a3, a3r0, a3r1, a3r2, a3r3, a3r4, a3r5, a3r6, a3r7, a3r8, a3r9]
    · repeat (refine Cl.here ?_; simp only [go_sem, Nat.reduceAdd, Nat.reduceSub, Nat.reduceMul, Nat.reduceEqDiff, Nat.reduceLT, Nat.reduceLeDiff, Nat.reduceBEq, reduceIte, reduceCtorEq, Int.reduceToNat, Int.reduceLE, Int.reduceLT, Int.reduceBEq, Int.reduceBNe])
      have hwi : IntKind.i64.wrap ((i : Int) - 1) = ((i - 1 : Nat) : Int) := by rw [wrap_i64 (by omega) (by omega)]; omega
      rw [Int.tmod_eq_emod_of_nonneg (by omega), Int.tmod_eq_emod_of_nonneg (by omega), wrap_i64 (x := 1 + (i : Int) % 12) (by omega) (by omega), wrap_i64 (x := 1 + (i : Int) % 28) (by omega) (by omega)]
      refine ⟨by decide, by decide, by omega, ?_⟩
      (refine Cl.tr [some 0] [] rfl rfl (by simp only [go_sem, Nat.reduceAdd, Nat.reduceSub, Nat.reduceMul, Nat.reduceEqDiff, Nat.reduceLT, Nat.reduceLeDiff, Nat.reduceBEq, reduceIte, reduceCtorEq, Int.reduceToNat, Int.reduceLE, Int.reduceLT, Int.reduceBEq, Int.reduceBNe] <;> rfl) ?_; simp only [go_sem, Nat.reduceAdd, Nat.reduceSub, Nat.reduceMul, Nat.reduceEqDiff, Nat.reduceLT, Nat.reduceLeDiff, Nat.reduceBEq, reduceIte, reduceCtorEq, Int.reduceToNat, Int.reduceLE, Int.reduceLT, Int.reduceBEq, Int.reduceBNe])
      repeat (refine Cl.here ?_; simp only [go_sem, Nat.reduceAdd, Nat.reduceSub, Nat.reduceMul, Nat.reduceEqDiff, Nat.reduceLT, Nat.reduceLeDiff, Nat.reduceBEq, reduceIte, reduceCtorEq, Int.reduceToNat, Int.reduceLE, Int.reduceLT, Int.reduceBEq, Int.reduceBNe])
      refine ⟨⟨i - 1, l ++ [dayRule i], by simp; omega, validL_snoc2 hv (dayRule_ok i), ?_, ?_⟩, ?_⟩
      · rw [hwi]; simp
      · rw [← els_snoc]; rfl
      · rw [hwi]; omega
    · repeat (refine Cl.here ?_; simp only [go_sem, Nat.reduceAdd, Nat.reduceSub, Nat.reduceMul, Nat.reduceEqDiff, Nat.reduceLT, Nat.reduceLeDiff, Nat.reduceBEq, reduceIte, reduceCtorEq, Int.reduceToNat, Int.reduceLE, Int.reduceLT, Int.reduceBEq, Int.reduceBNe])
      refine callC_det (mod_ok year 230 (by omega) (by omega)) rfl rfl ?_
      have hyb := mod_bounds (v := year) (n := 230) (by omega)
      generalize mod year 230 = y0 at hyb ⊢
      simp only [go_sem, Nat.reduceAdd, Nat.reduceSub, Nat.reduceMul, Nat.reduceEqDiff, Nat.reduceLT, Nat.reduceLeDiff, Nat.reduceBEq, reduceIte, reduceCtorEq, Int.reduceToNat, Int.reduceLE, Int.reduceLT, Int.reduceBEq, Int.reduceBNe]
      rw [wrap_i64 (by omega) (by omega)]
      generalize 1970 + y0 = y
      have hbv : bindV [.live 25 6 (els l)] [] [0] (.own 0 l.length 0 l.length) = .pure 6 (els l) := bindV_frz rfl rfl rfl els_length.symm els_clean
      refine Cl.frz [] [0] rfl rfl (by simp only [go_sem, Nat.reduceAdd, Nat.reduceSub, Nat.reduceMul, Nat.reduceEqDiff, Nat.reduceLT, Nat.reduceLeDiff, Nat.reduceBEq, reduceIte, reduceCtorEq, Int.reduceToNat, Int.reduceLE, Int.reduceLT, Int.reduceBEq, Int.reduceBNe] <;> rfl) ?_
      simp only [go_sem, Nat.reduceAdd, Nat.reduceSub, Nat.reduceMul, Nat.reduceEqDiff, Nat.reduceLT, Nat.reduceLeDiff, Nat.reduceBEq, reduceIte, reduceCtorEq, Int.reduceToNat, Int.reduceLE, Int.reduceLT, Int.reduceBEq, Int.reduceBNe, hbv]
      (refine Cl.here ?_; simp only [go_sem, Nat.reduceAdd, Nat.reduceSub, Nat.reduceMul, Nat.reduceEqDiff, Nat.reduceLT, Nat.reduceLeDiff, Nat.reduceBEq, reduceIte, reduceCtorEq, Int.reduceToNat, Int.reduceLE, Int.reduceLT, Int.reduceBEq, Int.reduceBNe])
      refine callC_det (Holidays_ok2 l (by omega) y) rfl rfl ?_
      simp only [go_sem, Nat.reduceAdd, Nat.reduceSub, Nat.reduceMul, Nat.reduceEqDiff, Nat.reduceLT, Nat.reduceLeDiff, Nat.reduceBEq, reduceIte, reduceCtorEq, Int.reduceToNat, Int.reduceLE, Int.reduceLT, Int.reduceBEq, Int.reduceBNe]
      (refine Cl.here ?_; simp only [go_sem, Nat.reduceAdd, Nat.reduceSub, Nat.reduceMul, Nat.reduceEqDiff, Nat.reduceLT, Nat.reduceLeDiff, Nat.reduceBEq, reduceIte, reduceCtorEq, Int.reduceToNat, Int.reduceLE, Int.reduceLT, Int.reduceBEq, Int.reduceBNe])
      refine callC_det (rHolidays_ok2 l (by omega) y) rfl rfl ?_
      simp only [go_sem, Nat.reduceAdd, Nat.reduceSub, Nat.reduceMul, Nat.reduceEqDiff, Nat.reduceLT, Nat.reduceLeDiff, Nat.reduceBEq, reduceIte, reduceCtorEq, Int.reduceToNat, Int.reduceLE, Int.reduceLT, Int.reduceBEq, Int.reduceBNe]
      (refine Cl.here ?_; simp only [go_sem, Nat.reduceAdd, Nat.reduceSub, Nat.reduceMul, Nat.reduceEqDiff, Nat.reduceLT, Nat.reduceLeDiff, Nat.reduceBEq, reduceIte, reduceCtorEq, Int.reduceToNat, Int.reduceLE, Int.reduceLT, Int.reduceBEq, Int.reduceBNe])
      refine callC_det (Valid_ok l (by omega)) rfl rfl ?_
      have hq : (validP l == 0) = decide ((l.length : Int) ≤ 1024) := by
        unfold validP
        by_cases h : 1024 < l.length
        · rw [if_pos h, decide_eq_false (by omega)]; rfl
        · rw [if_neg h, if_pos hv, decide_eq_true (by omega)]; rfl
      have hsm := same_ok (hoL l y) (by have := hoL_length l y; omega)
      generalize hoL l y = zs at hsm ⊢
      generalize hoE l y = e
      simp only [go_sem, Nat.reduceAdd, Nat.reduceSub, Nat.reduceMul, Nat.reduceEqDiff, Nat.reduceLT, Nat.reduceLeDiff, Nat.reduceBEq, reduceIte, reduceCtorEq, Int.reduceToNat, Int.reduceLE, Int.reduceLT, Int.reduceBEq, Int.reduceBNe, hq, beq_self_eq_true]
      refine callC_det hsm rfl rfl ?_
      simp only [go_sem, Nat.reduceAdd, Nat.reduceSub, Nat.reduceMul, Nat.reduceEqDiff, Nat.reduceLT, Nat.reduceLeDiff, Nat.reduceBEq, reduceIte, reduceCtorEq, Int.reduceToNat, Int.reduceLE, Int.reduceLT, Int.reduceBEq, Int.reduceBNe, beq_self_eq_true]
      refine callC_det sane_ok rfl rfl ?_
      simp only [go_sem, Nat.reduceAdd, Nat.reduceSub, Nat.reduceMul, Nat.reduceEqDiff, Nat.reduceLT, Nat.reduceLeDiff, Nat.reduceBEq, reduceIte, reduceCtorEq, Int.reduceToNat, Int.reduceLE, Int.reduceLT, Int.reduceBEq, Int.reduceBNe]
      repeat (refine Cl.here ?_; simp only [go_sem, Nat.reduceAdd, Nat.reduceSub, Nat.reduceMul, Nat.reduceEqDiff, Nat.reduceLT, Nat.reduceLeDiff, Nat.reduceBEq, reduceIte, reduceCtorEq, Int.reduceToNat, Int.reduceLE, Int.reduceLT, Int.reduceBEq, Int.reduceBNe])
      exact Cl.fin rfl rfl

end Go.Proofs.YtpmlihjdegekgaaDoor
