/- The texts of days. -/
import Derived.Test.YtpmlihjdegekgaaDoorA3Day2
import Derived.Test.YtpmlihjdegekgaaDoorA3Itoa
import Derived.Lib.ItoaLen
set_option linter.unusedSimpArgs false
set_option linter.unusedVariables false
set_option linter.unusedSectionVars false
namespace Go.Proofs.YtpmlihjdegekgaaDoor
open Go Go.Abs
set_option linter.unusedSimpArgs false

theorem itoaS_size (n : Int) (h0 : -9223372036854775808 ≤ n) (h1 : n ≤ 9223372036854775807) : (itoaS n).size ≤ 21 := by
  have h := Lib.itoa_length_le n h0 h1
  show (Lib.itoa n).toArray.size ≤ 21
  simpa using h
def twoP (n : Int) : ByteArray := if n < 10 then ⟨#[48]⟩ ++ itoaS n else itoaS n
theorem two_ok (n : Int) (h0 : 0 ≤ n) (h1 : n ≤ 1000) : AFn Tryd.prog 68 [.int .i64 n] [] (fun v rs => v = .str (twoP n) ∧ rs = []) := by
  refine afn Tryd.func68 a68_ok (by simp [a68]) ?_
  have hsz := itoaS_size n (by omega) (by omega)
  simp only [go_sem, Nat.reduceAdd, Nat.reduceSub, Nat.reduceMul, Nat.reduceEqDiff, Nat.reduceLT, Nat.reduceLeDiff, Nat.reduceBEq, reduceIte, reduceCtorEq, Int.reduceToNat, Int.reduceLE, Int.reduceLT, Int.reduceBEq, Int.reduceBNe, a68, a68r0, a68r1, a68r2, a68r3, a68r4]
  refine callC_det (itoa_ok n (by omega) (by omega)) rfl rfl ?_
  simp only [go_sem, Nat.reduceAdd, Nat.reduceSub, Nat.reduceMul, Nat.reduceEqDiff, Nat.reduceLT, Nat.reduceLeDiff, Nat.reduceBEq, reduceIte, reduceCtorEq, Int.reduceToNat, Int.reduceLE, Int.reduceLT, Int.reduceBEq, Int.reduceBNe]
  refine condC_intro ?_ ?_ <;> intro hg1 <;> simp only [decide_eq_true_eq, decide_eq_false_iff_not, beq_iff_eq, beq_eq_false_iff_ne, bne_iff_ne, bne_eq_false_iff_eq, Bool.not_eq_true', Bool.not_eq_false', Int.not_lt, Int.not_le, ne_eq, Bool.and_eq_true, Bool.or_eq_true, Bool.or_eq_false_iff, Bool.and_eq_false_iff] at hg1 <;> simp only [go_sem, Nat.reduceAdd, Nat.reduceSub, Nat.reduceMul, Nat.reduceEqDiff, Nat.reduceLT, Nat.reduceLeDiff, Nat.reduceBEq, reduceIte, reduceCtorEq, Int.reduceToNat, Int.reduceLE, Int.reduceLT, Int.reduceBEq, Int.reduceBNe, a68, a68r0, a68r1, a68r2, a68r3, a68r4]
  · refine ⟨by show ((1 + (itoaS n).size : Nat) : Int) ≤ 9223372036854775807; omega, ?_⟩
    exact Cl.fin rfl ⟨by rw [twoP, if_pos hg1], rfl⟩
  · exact Cl.fin rfl ⟨by rw [twoP, if_neg (by omega)], rfl⟩
theorem size_app (a b : ByteArray) : (a ++ b).size = a.size + b.size := by simp [ByteArray.size_append]
theorem twoP_size (n : Int) (h0 : 0 ≤ n) (h1 : n ≤ 1000) : (twoP n).size ≤ 22 := by
  have hsz := itoaS_size n (by omega) (by omega)
  rw [twoP]
  split
  · rw [size_app]; show 1 + _ ≤ 22; omega
  · omega
def fmtP (d : Int) : ByteArray := itoaS (yearP d) ++ ⟨#[45]⟩ ++ twoP (dateM d).1 ++ ⟨#[45]⟩ ++ twoP ((dateM d).2 + 1)
theorem Format_ok (d : Int) (hd : okD d) : AFn Tryd.prog 43 [.int .i64 d] [] (fun v rs => v = .str (fmtP d) ∧ rs = []) := by
  refine afn Tryd.func43 a43_ok (by simp [a43]) ?_
  have hA := date_okc d
  rw [if_pos hd] at hA
  obtain ⟨m, r, e1, e2, e3, e4, e5, _⟩ := date_ok (d := d) hd.1 (by have := hd.2; omega)
  obtain ⟨_, _, y1, y2⟩ := year_ok (d := d) hd.1 (by have := hd.2; omega)
  have hl := lenP_bd (y := yearP d) (m := m) (by omega) (by omega)
  have hf : fmtP d = itoaS (yearP d) ++ ⟨#[45]⟩ ++ twoP m ++ ⟨#[45]⟩ ++ twoP (r + 1) := by rw [fmtP, e1]
  rw [e1] at hA
  have s1 := itoaS_size (yearP d) (by omega) (by omega)
  have s2 := twoP_size m (by omega) (by omega)
  have s3 := twoP_size (r + 1) (by omega) (by omega)
  rw [hf]
  simp only [go_sem, Nat.reduceAdd, Nat.reduceSub, Nat.reduceMul, Nat.reduceEqDiff, Nat.reduceLT, Nat.reduceLeDiff, Nat.reduceBEq, reduceIte, reduceCtorEq, Int.reduceToNat, Int.reduceLE, Int.reduceLT, Int.reduceBEq, Int.reduceBNe, a43, a43r0, a43r1, a43r2, a43r3, a43r4]
  refine callC_det hA rfl rfl ?_
  simp only [go_sem, Nat.reduceAdd, Nat.reduceSub, Nat.reduceMul, Nat.reduceEqDiff, Nat.reduceLT, Nat.reduceLeDiff, Nat.reduceBEq, reduceIte, reduceCtorEq, Int.reduceToNat, Int.reduceLE, Int.reduceLT, Int.reduceBEq, Int.reduceBNe]
  refine callC_det (itoa_ok (yearP d) (by omega) (by omega)) rfl rfl ?_
  generalize itoaS (yearP d) = S1 at s1 ⊢
  simp only [go_sem, Nat.reduceAdd, Nat.reduceSub, Nat.reduceMul, Nat.reduceEqDiff, Nat.reduceLT, Nat.reduceLeDiff, Nat.reduceBEq, reduceIte, reduceCtorEq, Int.reduceToNat, Int.reduceLE, Int.reduceLT, Int.reduceBEq, Int.reduceBNe]
  refine ⟨by show ((S1.size + 1 : Nat) : Int) ≤ 9223372036854775807; omega, ?_⟩
  refine callC_det (two_ok m (by omega) (by omega)) rfl rfl ?_
  generalize twoP m = S2 at s2 ⊢
  simp only [go_sem, Nat.reduceAdd, Nat.reduceSub, Nat.reduceMul, Nat.reduceEqDiff, Nat.reduceLT, Nat.reduceLeDiff, Nat.reduceBEq, reduceIte, reduceCtorEq, Int.reduceToNat, Int.reduceLE, Int.reduceLT, Int.reduceBEq, Int.reduceBNe]
  refine ⟨by show ((S1.size + 1 + S2.size : Nat) : Int) ≤ 9223372036854775807; omega, ?_⟩
  refine ⟨by show ((S1.size + 1 + S2.size + 1 : Nat) : Int) ≤ 9223372036854775807; omega, ?_⟩
  refine callC_det (two_ok (r + 1) (by omega) (by omega)) rfl rfl ?_
  generalize twoP (r + 1) = S3 at s3 ⊢
  simp only [go_sem, Nat.reduceAdd, Nat.reduceSub, Nat.reduceMul, Nat.reduceEqDiff, Nat.reduceLT, Nat.reduceLeDiff, Nat.reduceBEq, reduceIte, reduceCtorEq, Int.reduceToNat, Int.reduceLE, Int.reduceLT, Int.reduceBEq, Int.reduceBNe]
  refine ⟨by show ((S1.size + 1 + S2.size + 1 + S3.size : Nat) : Int) ≤ 9223372036854775807; omega, ?_⟩
  exact Cl.fin rfl ⟨rfl, rfl⟩

end Go.Proofs.YtpmlihjdegekgaaDoor
