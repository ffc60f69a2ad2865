/- CalendarAddMonths: the walk. -/
import Derived.Test.YtpmlihjdegekgaaDoorA3Pl
set_option linter.unusedSimpArgs false
set_option linter.unusedVariables false
set_option linter.unusedSectionVars false
namespace Go.Proofs.YtpmlihjdegekgaaDoor
open Go Go.Abs
set_option linter.unusedSimpArgs false

theorem calendarAddMonths (n k : Int) : AFn Tryd.prog 8 [.int .i64 n, .int .i64 k] [] (fun v _ => v = .bool true) := by
  refine afn Tryd.func8 a8_ok (by simp [a8]) ?_
  simp only [go_sem, Nat.reduceAdd, Nat.reduceSub, Nat.reduceMul, Nat.reduceEqDiff, Nat.reduceLT, Nat.reduceLeDiff, Nat.reduceBEq, reduceIte, reduceCtorEq, Int.reduceToNat, Int.reduceLE, Int.reduceLT, Int.reduceBEq, Int.reduceBNe, a8, a8r0, a8r1, a8r2, a8r3, a8r4, a8r5, a8r6, a8r7, a8r8, a8r9, a8r10, a8r11]
  refine callC_det (mod_ok n 84006 (by omega) (by omega)) rfl rfl ?_
  have hmb := mod_bounds (v := n) (n := 84006) (by omega)
  generalize mod n 84006 = d at hmb ⊢
  have hd : okD d := ⟨by omega, by omega⟩
  simp only [go_sem, Nat.reduceAdd, Nat.reduceSub, Nat.reduceMul, Nat.reduceEqDiff, Nat.reduceLT, Nat.reduceLeDiff, Nat.reduceBEq, reduceIte, reduceCtorEq, Int.reduceToNat, Int.reduceLE, Int.reduceLT, Int.reduceBEq, Int.reduceBNe]
  refine callC_det (mod_ok k 49 (by omega) (by omega)) rfl rfl ?_
  have hkb := mod_bounds (v := k) (n := 49) (by omega)
  generalize mod k 49 = k0 at hkb ⊢
  simp only [go_sem, Nat.reduceAdd, Nat.reduceSub, Nat.reduceMul, Nat.reduceEqDiff, Nat.reduceLT, Nat.reduceLeDiff, Nat.reduceBEq, reduceIte, reduceCtorEq, Int.reduceToNat, Int.reduceLE, Int.reduceLT, Int.reduceBEq, Int.reduceBNe]
  rw [wrap_i64 (by omega) (by omega)]
  obtain ⟨b, hb⟩ : ∃ b, k0 - 24 = b := ⟨_, rfl⟩
  rw [hb]
  have hA := AddMonths_ok d b
  have hmo := monthP_bd hd
  have hwm : IntKind.i64.wrap (monthP d + b) = monthP d + b := wrap_i64 (by omega) (by omega)
  obtain ⟨m0, r, e1, e2, e3, e4, e5, e6⟩ := date_ok (d := d) hd.1 (by have := hd.2; omega)
  by_cases hm : okM (monthP d + b)
  · have hadd : addOk d b := ⟨hd, by omega, by omega, hm⟩
    rw [if_pos hadd] at hA
    have hlen := lengthP_pos hm
    have hlb := lenP_bd (y := yearP d) (m := m0) (by omega) (by omega)
    obtain ⟨x, hx⟩ : ∃ x, x = addP d b := ⟨_, rfl⟩
    have hxe : x = firstP (monthP d + b) + (min (r + 1) (lengthP (monthP d + b)) - 1) := by rw [hx, addP, e1]; simp only; omega
    obtain ⟨hxo, hxm, hxr⟩ := month_day hm (r := min (r + 1) (lengthP (monthP d + b)) - 1) (by omega) (by omega)
    rw [← hxe] at hxo hxm hxr
    rw [← hx] at hA
    have d1 : decide (0 ≤ monthP d + b) = true := decide_eq_true hm.1
    have d2 : decide (monthP d + b ≤ 2759) = true := decide_eq_true hm.2
    refine callC_det hA rfl rfl ?_
    simp only [go_sem, Nat.reduceAdd, Nat.reduceSub, Nat.reduceMul, Nat.reduceEqDiff, Nat.reduceLT, Nat.reduceLeDiff, Nat.reduceBEq, reduceIte, reduceCtorEq, Int.reduceToNat, Int.reduceLE, Int.reduceLT, Int.reduceBEq, Int.reduceBNe]
    refine callC_det (Month_ok d) rfl rfl ?_
    simp only [go_sem, Nat.reduceAdd, Nat.reduceSub, Nat.reduceMul, Nat.reduceEqDiff, Nat.reduceLT, Nat.reduceLeDiff, Nat.reduceBEq, reduceIte, reduceCtorEq, Int.reduceToNat, Int.reduceLE, Int.reduceLT, Int.reduceBEq, Int.reduceBNe, hwm, d1, d2]
    have hD := date_okc d
    rw [if_pos hd, e1] at hD
    have hX := date_okc x
    rw [if_pos hxo, hxr] at hX
    refine callC_det hD rfl rfl ?_
    simp only [go_sem, Nat.reduceAdd, Nat.reduceSub, Nat.reduceMul, Nat.reduceEqDiff, Nat.reduceLT, Nat.reduceLeDiff, Nat.reduceBEq, reduceIte, reduceCtorEq, Int.reduceToNat, Int.reduceLE, Int.reduceLT, Int.reduceBEq, Int.reduceBNe]
    refine callC_det hX rfl rfl ?_
    simp only [go_sem, Nat.reduceAdd, Nat.reduceSub, Nat.reduceMul, Nat.reduceEqDiff, Nat.reduceLT, Nat.reduceLeDiff, Nat.reduceBEq, reduceIte, reduceCtorEq, Int.reduceToNat, Int.reduceLE, Int.reduceLT, Int.reduceBEq, Int.reduceBNe]
    refine callC_det (Month_ok x) rfl rfl ?_
    rw [hxm]
    by_cases hc : r + 1 ≤ lengthP (monthP d + b)
    · have f1 : (r + 1 == min (r + 1) (lengthP (monthP d + b)) - 1 + 1) = true := beq_iff_eq.2 (by omega)
      simp only [go_sem, Nat.reduceAdd, Nat.reduceSub, Nat.reduceMul, Nat.reduceEqDiff, Nat.reduceLT, Nat.reduceLeDiff, Nat.reduceBEq, reduceIte, reduceCtorEq, Int.reduceToNat, Int.reduceLE, Int.reduceLT, Int.reduceBEq, Int.reduceBNe, beq_self_eq_true, f1]
      refine callC_det sane_ok rfl rfl ?_
      simp only [go_sem, Nat.reduceAdd, Nat.reduceSub, Nat.reduceMul, Nat.reduceEqDiff, Nat.reduceLT, Nat.reduceLeDiff, Nat.reduceBEq, reduceIte, reduceCtorEq, Int.reduceToNat, Int.reduceLE, Int.reduceLT, Int.reduceBEq, Int.reduceBNe]
      exact Cl.fin rfl rfl
    · have f1 : (r + 1 == min (r + 1) (lengthP (monthP d + b)) - 1 + 1) = false := beq_eq_false_iff_ne.2 (by omega)
      have f2 : decide (min (r + 1) (lengthP (monthP d + b)) - 1 + 1 < r + 1) = true := decide_eq_true (by omega)
      have f3 : (min (r + 1) (lengthP (monthP d + b)) - 1 + 1 == lengthP (monthP d + b)) = true := beq_iff_eq.2 (by omega)
      simp only [go_sem, Nat.reduceAdd, Nat.reduceSub, Nat.reduceMul, Nat.reduceEqDiff, Nat.reduceLT, Nat.reduceLeDiff, Nat.reduceBEq, reduceIte, reduceCtorEq, Int.reduceToNat, Int.reduceLE, Int.reduceLT, Int.reduceBEq, Int.reduceBNe, beq_self_eq_true, f1, f2]
      refine callC_det (Length_ok (monthP d + b)) rfl rfl ?_
      simp only [go_sem, Nat.reduceAdd, Nat.reduceSub, Nat.reduceMul, Nat.reduceEqDiff, Nat.reduceLT, Nat.reduceLeDiff, Nat.reduceBEq, reduceIte, reduceCtorEq, Int.reduceToNat, Int.reduceLE, Int.reduceLT, Int.reduceBEq, Int.reduceBNe, f3]
      refine callC_det sane_ok rfl rfl ?_
      simp only [go_sem, Nat.reduceAdd, Nat.reduceSub, Nat.reduceMul, Nat.reduceEqDiff, Nat.reduceLT, Nat.reduceLeDiff, Nat.reduceBEq, reduceIte, reduceCtorEq, Int.reduceToNat, Int.reduceLE, Int.reduceLT, Int.reduceBEq, Int.reduceBNe]
      exact Cl.fin rfl rfl
  · have hadd : ¬ addOk d b := fun h => hm h.2.2.2
    rw [if_neg hadd] at hA
    refine callC_det hA rfl rfl ?_
    simp only [go_sem, Nat.reduceAdd, Nat.reduceSub, Nat.reduceMul, Nat.reduceEqDiff, Nat.reduceLT, Nat.reduceLeDiff, Nat.reduceBEq, reduceIte, reduceCtorEq, Int.reduceToNat, Int.reduceLE, Int.reduceLT, Int.reduceBEq, Int.reduceBNe]
    refine callC_det (Month_ok d) rfl rfl ?_
    rcases Int.lt_or_le (monthP d + b) 0 with h | h
    · have d1 : decide (0 ≤ monthP d + b) = false := decide_eq_false (by omega)
      simp only [go_sem, Nat.reduceAdd, Nat.reduceSub, Nat.reduceMul, Nat.reduceEqDiff, Nat.reduceLT, Nat.reduceLeDiff, Nat.reduceBEq, reduceIte, reduceCtorEq, Int.reduceToNat, Int.reduceLE, Int.reduceLT, Int.reduceBEq, Int.reduceBNe, hwm, d1]
      refine callC_det sane_ok rfl rfl ?_
      simp only [go_sem, Nat.reduceAdd, Nat.reduceSub, Nat.reduceMul, Nat.reduceEqDiff, Nat.reduceLT, Nat.reduceLeDiff, Nat.reduceBEq, reduceIte, reduceCtorEq, Int.reduceToNat, Int.reduceLE, Int.reduceLT, Int.reduceBEq, Int.reduceBNe]
      exact Cl.fin rfl rfl
    · have d1 : decide (0 ≤ monthP d + b) = true := decide_eq_true h
      have d2 : decide (monthP d + b ≤ 2759) = false := decide_eq_false (fun h' => hm ⟨h, h'⟩)
      simp only [go_sem, Nat.reduceAdd, Nat.reduceSub, Nat.reduceMul, Nat.reduceEqDiff, Nat.reduceLT, Nat.reduceLeDiff, Nat.reduceBEq, reduceIte, reduceCtorEq, Int.reduceToNat, Int.reduceLE, Int.reduceLT, Int.reduceBEq, Int.reduceBNe, hwm, d1, d2]
      refine callC_det sane_ok rfl rfl ?_
      simp only [go_sem, Nat.reduceAdd, Nat.reduceSub, Nat.reduceMul, Nat.reduceEqDiff, Nat.reduceLT, Nat.reduceLeDiff, Nat.reduceBEq, reduceIte, reduceCtorEq, Int.reduceToNat, Int.reduceLE, Int.reduceLT, Int.reduceBEq, Int.reduceBNe]
      exact Cl.fin rfl rfl

end Go.Proofs.YtpmlihjdegekgaaDoor
