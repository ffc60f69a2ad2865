/- CalendarWorkdays: the walk. -/
import Derived.Test.YtpmlihjdegekgaaDoorA3THol
import Derived.Test.YtpmlihjdegekgaaDoorA3WPl
set_option linter.unusedSimpArgs false
set_option linter.unusedVariables false
set_option linter.unusedSectionVars false
namespace Go.Proofs.YtpmlihjdegekgaaDoor
open Go Go.Abs
set_option linter.unusedSimpArgs false

theorem validP_ok {l : List Hol} (h1 : l.length ≤ 1024) (h2 : validL l = true) : validP l = 0 := by rw [validP, if_neg (by omega), if_pos h2]
theorem workP_ok {l : List Hol} (h1 : l.length ≤ 1024) (h2 : validL l = true) {a b : Int} (ha : okD a) (hb : okD b) (h : a ≤ b) : workP l a b = (wkN l a b, 0) := by
  rw [workP, if_pos (validP_ok h1 h2), if_pos ⟨ha, hb⟩, if_neg (by omega)]

theorem wkC_bd (H : List Int) (a : Int) : ∀ n : Nat, 0 ≤ wkC H a n ∧ wkC H a n ≤ n
  | 0 => by simp [wkC]
  | n + 1 => by
    have := wkC_bd H a n
    rw [wkC]
    split <;> omega
theorem wkN_bd {l : List Hol} (hv : validL l = true) {a b : Int} (ha : okD a) (hb : okD b) (h : a ≤ b) : 0 ≤ wkN l a b ∧ wkN l a b ≤ 100000 := by
  rw [wkN_eq hv ha hb h]
  have := wkC_bd (allH l) a (b + 1 - a).toNat
  have h1 := ha.1
  have h2 := hb.2
  omega

theorem calendarWorkdays (l : List Int) (hl : TapeOk l) (n : Int) : AFn Tryd.prog 11 [.pure 1 (numsE .i64 l), .int .i64 n] [] (fun v _ => v = .bool true) := by
  refine afn Tryd.func11 a11_ok (by simp [a11]) ?_
  simp only [go_sem, Nat.reduceAdd, Nat.reduceSub, Nat.reduceMul, Nat.reduceEqDiff, Nat.reduceLT, Nat.reduceLeDiff, Nat.reduceBEq, reduceIte, reduceCtorEq, Int.reduceToNat, Int.reduceLE, Int.reduceLT, Int.reduceBEq, Int.reduceBNe, a11, a11r0, a11r1, a11r2, a11r3, a11r4, a11r5, a11r6, a11r7, a11r8, a11r9]
  (refine callC_of [] [] (by simp) rfl (bindL_clean _ (by first | rfl | simp only [go_sem, Nat.reduceAdd, Nat.reduceSub, Nat.reduceMul, Nat.reduceEqDiff, Nat.reduceLT, Nat.reduceLeDiff, Nat.reduceBEq, reduceIte, reduceCtorEq, Int.reduceToNat, Int.reduceLE, Int.reduceLT, Int.reduceBEq, Int.reduceBNe])) (new_ok l) ?_; rintro _ _ ⟨rfl, rfl⟩; refine ⟨.inl rfl, ?_⟩; simp only [go_sem, Nat.reduceAdd, Nat.reduceSub, Nat.reduceMul, Nat.reduceEqDiff, Nat.reduceLT, Nat.reduceLeDiff, Nat.reduceBEq, reduceIte, reduceCtorEq, Int.reduceToNat, Int.reduceLE, Int.reduceLT, Int.reduceBEq, Int.reduceBNe])
  (refine callC_of [0] [] (by decide) (by simp only [go_sem, Nat.reduceAdd, Nat.reduceSub, Nat.reduceMul, Nat.reduceEqDiff, Nat.reduceLT, Nat.reduceLeDiff, Nat.reduceBEq, reduceIte, reduceCtorEq, Int.reduceToNat, Int.reduceLE, Int.reduceLT, Int.reduceBEq, Int.reduceBNe] <;> rfl) (by simp only [go_sem, Nat.reduceAdd, Nat.reduceSub, Nat.reduceMul, Nat.reduceEqDiff, Nat.reduceLT, Nat.reduceLeDiff, Nat.reduceBEq, reduceIte, reduceCtorEq, Int.reduceToNat, Int.reduceLE, Int.reduceLT, Int.reduceBEq, Int.reduceBNe] <;> rfl) (tHol_ok l hl false 0 (by omega) (by omega)) ?_; rintro _ _ ⟨at_, r, h0, h1, hr, hv, rfl, rfl⟩; refine ⟨.inl rfl, ?_⟩; simp only [go_sem, Nat.reduceAdd, Nat.reduceSub, Nat.reduceMul, Nat.reduceEqDiff, Nat.reduceLT, Nat.reduceLeDiff, Nat.reduceBEq, reduceIte, reduceCtorEq, Int.reduceToNat, Int.reduceLE, Int.reduceLT, Int.reduceBEq, Int.reduceBNe])
  refine callC_det (mod_ok n 83905 (by omega) (by omega)) rfl rfl ?_
  have hm := mod_bounds (v := n) (n := 83905) (by omega)
  generalize mod n 83905 = a at hm ⊢
  simp only [go_sem, Nat.reduceAdd, Nat.reduceSub, Nat.reduceMul, Nat.reduceEqDiff, Nat.reduceLT, Nat.reduceLeDiff, Nat.reduceBEq, reduceIte, reduceCtorEq, Int.reduceToNat, Int.reduceLE, Int.reduceLT, Int.reduceBEq, Int.reduceBNe]
  (refine callC_tape (next_ok l hl 40 (by omega)) rfl rfl (by omega) (by omega) ?_; rintro _ at_ _ _ ⟨ x1, rfl, _, _⟩; simp only [go_sem, Nat.reduceAdd, Nat.reduceSub, Nat.reduceMul, Nat.reduceEqDiff, Nat.reduceLT, Nat.reduceLeDiff, Nat.reduceBEq, reduceIte, reduceCtorEq, Int.reduceToNat, Int.reduceLE, Int.reduceLT, Int.reduceBEq, Int.reduceBNe])
  (refine callC_tape (next_ok l hl 40 (by omega)) rfl rfl (by omega) (by omega) ?_; rintro _ at_ _ _ ⟨ x2, rfl, _, _⟩; simp only [go_sem, Nat.reduceAdd, Nat.reduceSub, Nat.reduceMul, Nat.reduceEqDiff, Nat.reduceLT, Nat.reduceLeDiff, Nat.reduceBEq, reduceIte, reduceCtorEq, Int.reduceToNat, Int.reduceLE, Int.reduceLT, Int.reduceBEq, Int.reduceBNe])
  rw [wrap_i64 (x := a + x1) (by omega) (by omega), wrap_i64 (x := a + 40) (by omega) (by omega), wrap_i64 (x := a + 40 + x2) (by omega) (by omega)]
  obtain ⟨m, hmm⟩ : ∃ m, m = a + x1 := ⟨_, rfl⟩
  obtain ⟨b, hbb⟩ : ∃ b, b = a + 40 + x2 := ⟨_, rfl⟩
  rw [← hmm, ← hbb]
  have hv := hv rfl
  have ha : okD a := ⟨by omega, by omega⟩
  have hmd : okD m := ⟨by omega, by omega⟩
  have hm1 : okD (m + 1) := ⟨by omega, by omega⟩
  have hbd : okD b := ⟨by omega, by omega⟩
  have h6 : okD (a + 6) := ⟨by omega, by omega⟩
  have hA := Workdays_ok r (by omega) a m
  rw [workP_ok (by omega) hv ha hmd (by omega)] at hA
  have hB := Workdays_ok r (by omega) (m + 1) b
  rw [workP_ok (by omega) hv hm1 hbd (by omega)] at hB
  have hC := Workdays_ok r (by omega) a b
  rw [workP_ok (by omega) hv ha hbd (by omega)] at hC
  have hD := (Workdays_ok [] (by simp) a (a + 6)).says (.cons says_nils (.cons .rfl (.cons .rfl .nil)))
  rw [workP_ok (by simp) rfl ha h6 (by omega), wk_week ha h6] at hD
  have hp := wk_parts hv ha hbd (m := m) (by omega) (by omega)
  have w1 := wkN_bd hv ha hmd (by omega)
  have w2 := wkN_bd hv hm1 hbd (by omega)
  generalize wkN r a m = A at *
  generalize wkN r (m + 1) b = B at *
  generalize wkN r a b = D at *
  have lend : ∀ rows : List Row, rows[1]? = some (.live 25 6 (els r)) → bindV rows [] [1] (.own 1 r.length 0 r.length) = .pure 6 (els r) := fun rows h => bindV_viewAll rfl h els_length.symm els_clean
  refine callC_view [1] (Q := fun v => v = .tup [.int .i64 A, .int .i64 0]) hA (by rw [bindL, lend _ rfl]; rfl) ?_
  rintro _ rfl
  refine ⟨rfl, rfl, ?_⟩
  simp only [go_sem, Nat.reduceAdd, Nat.reduceSub, Nat.reduceMul, Nat.reduceEqDiff, Nat.reduceLT, Nat.reduceLeDiff, Nat.reduceBEq, reduceIte, reduceCtorEq, Int.reduceToNat, Int.reduceLE, Int.reduceLT, Int.reduceBEq, Int.reduceBNe]
  rw [wrap_i64 (x := m + 1) (by omega) (by omega)]
  refine callC_view [1] (Q := fun v => v = .tup [.int .i64 B, .int .i64 0]) hB (by rw [bindL, lend _ rfl]; rfl) ?_
  rintro _ rfl
  refine ⟨rfl, rfl, ?_⟩
  simp only [go_sem, Nat.reduceAdd, Nat.reduceSub, Nat.reduceMul, Nat.reduceEqDiff, Nat.reduceLT, Nat.reduceLeDiff, Nat.reduceBEq, reduceIte, reduceCtorEq, Int.reduceToNat, Int.reduceLE, Int.reduceLT, Int.reduceBEq, Int.reduceBNe]
  refine callC_view [1] (Q := fun v => v = .tup [.int .i64 D, .int .i64 0]) hC (by rw [bindL, lend _ rfl]; rfl) ?_
  rintro _ rfl
  refine ⟨rfl, rfl, ?_⟩
  simp only [go_sem, Nat.reduceAdd, Nat.reduceSub, Nat.reduceMul, Nat.reduceEqDiff, Nat.reduceLT, Nat.reduceLeDiff, Nat.reduceBEq, reduceIte, reduceCtorEq, Int.reduceToNat, Int.reduceLE, Int.reduceLT, Int.reduceBEq, Int.reduceBNe]
  rw [wrap_i64 (x := a + 6) (by omega) (by omega)]
  refine callC_det hD rfl rfl ?_
  simp only [go_sem, Nat.reduceAdd, Nat.reduceSub, Nat.reduceMul, Nat.reduceEqDiff, Nat.reduceLT, Nat.reduceLeDiff, Nat.reduceBEq, reduceIte, reduceCtorEq, Int.reduceToNat, Int.reduceLE, Int.reduceLT, Int.reduceBEq, Int.reduceBNe]
  rw [wrap_i64 (x := A + B) (by omega) (by omega), hp]
  simp only [go_sem, Nat.reduceAdd, Nat.reduceSub, Nat.reduceMul, Nat.reduceEqDiff, Nat.reduceLT, Nat.reduceLeDiff, Nat.reduceBEq, reduceIte, reduceCtorEq, Int.reduceToNat, Int.reduceLE, Int.reduceLT, Int.reduceBEq, Int.reduceBNe]
  refine callC_det sane_ok rfl rfl ?_
  simp only [go_sem, Nat.reduceAdd, Nat.reduceSub, Nat.reduceMul, Nat.reduceEqDiff, Nat.reduceLT, Nat.reduceLeDiff, Nat.reduceBEq, reduceIte, reduceCtorEq, Int.reduceToNat, Int.reduceLE, Int.reduceLT, Int.reduceBEq, Int.reduceBNe]
  exact Cl.fin rfl rfl

end Go.Proofs.YtpmlihjdegekgaaDoor
