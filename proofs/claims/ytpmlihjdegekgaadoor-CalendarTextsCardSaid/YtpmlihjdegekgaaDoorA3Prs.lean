/- The texts of days: parsing. -/
import Derived.Test.YtpmlihjdegekgaaDoorA3Txt
import Derived.Test.YtpmlihjdegekgaaDoorA3TForms
set_option linter.unusedSimpArgs false
set_option linter.unusedVariables false
set_option linter.unusedSectionVars false
namespace Go.Proofs.YtpmlihjdegekgaaDoor
open Go Go.Abs
set_option linter.unusedSimpArgs false
set_option linter.unusedVariables false

def byt (s : ByteArray) (i : Nat) : Int := ((s.data.getD i 0).toNat : Int)
theorem byt_bd (s : ByteArray) (i : Nat) : 0 ≤ byt s i ∧ byt s i ≤ 255 := by
  unfold byt
  have := (s.data.getD i 0).toNat_lt
  omega
theorem byt_cast (s : ByteArray) (i : Nat) : ((s.data.getD i 0).toNat : Int) = byt s i := rfl
def dg : Int → List Int → Option Int
  | n, [] => some n
  | n, b :: l => if b < 48 ∨ 57 < b then none else dg (10 * n + (b - 48)) l
def dl (s : ByteArray) : List Int := (List.range s.size).map (byt s)
theorem dl_drop {s : ByteArray} {i : Nat} (h : i < s.size) : (dl s).drop i = byt s i :: (dl s).drop (i + 1) := by
  have hl : i < (dl s).length := by rw [dl, List.length_map, List.length_range]; exact h
  rw [List.drop_eq_getElem_cons hl]
  congr 1
  simp [dl]
theorem dl_end {s : ByteArray} : (dl s).drop s.size = [] := List.drop_eq_nil_of_le (by rw [dl, List.length_map, List.length_range]; exact Nat.le_refl _)
def digP (s : ByteArray) : Option Int := dg 0 (dl s)
def digV : Option Int → AVal
  | some n => .tup [.int .i64 n, .bool true]
  | none => .tup [.int .i64 0, .bool false]
def smallN (i : Nat) (n : Int) : Prop := 0 ≤ n ∧ ((i = 0 ∧ n = 0) ∨ (i = 1 ∧ n ≤ 9) ∨ (i = 2 ∧ n ≤ 99) ∨ (i = 3 ∧ n ≤ 999) ∨ (i = 4 ∧ n ≤ 9999))
theorem smallN_step {i : Nat} {n b : Int} (h : smallN i n) (hi : i < 4) (h0 : 48 ≤ b) (h1 : b ≤ 57) : smallN (i + 1) (10 * n + (b - 48)) := by
  unfold smallN at h ⊢
  omega
theorem digits_ok (s : ByteArray) (hs : s.size ≤ 4) : AFn Tryd.prog 66 [.str s] [] (fun v rs => v = digV (digP s) ∧ rs = []) := by
  refine afn Tryd.func66 a66_ok (by simp [a66]) ?_
  simp only [go_sem, Nat.reduceAdd, Nat.reduceSub, Nat.reduceMul, Nat.reduceEqDiff, Nat.reduceLT, Nat.reduceLeDiff, Nat.reduceBEq, reduceIte, reduceCtorEq, Int.reduceToNat, Int.reduceLE, Int.reduceLT, Int.reduceBEq, Int.reduceBNe, a66, a66r0, a66r1, a66r2, a66r3, a66r4, a66r5, a66r6, a66r7, a66r8, a66r9]
  refine avc_loop (fun env rows => ∃ (i : Nat) (n : Int), i ≤ s.size ∧ smallN i n ∧ dg n ((dl s).drop i) = digP s ∧ env = [(0, .str s), (4, .int .i64 n), (7, .int .i64 (s.size : Int)), (8, .int .i64 (i : Int))] ∧ rows = [])
    (fun env _ => match slot env 8 with | .int _ j => s.size - j.toNat | _ => 0) ?_ ?_
  · exact Cl.here ⟨0, 0, Nat.zero_le _, ⟨by omega, by omega⟩, rfl, rfl, rfl⟩
  · rintro env rows ⟨i, n, hi, hn, hd, rfl, rfl⟩
    have hc : i = s.size ∨ i < s.size := by omega
    rcases hc with hc | hc
    · have h1 : ¬ ((i : Int) < (s.size : Int)) := by omega
      rw [hc, dl_end] at hd
      simp only [go_sem, Nat.reduceAdd, Nat.reduceSub, Nat.reduceMul, Nat.reduceEqDiff, Nat.reduceLT, Nat.reduceLeDiff, Nat.reduceBEq, reduceIte, reduceCtorEq, Int.reduceToNat, Int.reduceLE, Int.reduceLT, Int.reduceBEq, Int.reduceBNe, a66, a66r0, a66r1, a66r2, a66r3, a66r4, a66r5, a66r6, a66r7, a66r8, a66r9, h1]
      exact Cl.fin rfl ⟨by rw [← hd]; rfl, rfl⟩
    · have h1 : ((i : Int) < (s.size : Int)) := by omega
      have h2 : (0 : Int) ≤ (i : Int) := by omega
      rw [dl_drop hc] at hd
      have hb := byt_bd s i
      generalize hB : byt s i = b at hd hb
      have hB' : ((s.data.getD i 0).toNat : Int) = b := hB
      by_cases c1 : b < 48
      · rw [dg, if_pos (.inl c1)] at hd
        simp only [go_sem, Nat.reduceAdd, Nat.reduceSub, Nat.reduceMul, Nat.reduceEqDiff, Nat.reduceLT, Nat.reduceLeDiff, Nat.reduceBEq, reduceIte, reduceCtorEq, Int.reduceToNat, Int.reduceLE, Int.reduceLT, Int.reduceBEq, Int.reduceBNe, a66, a66r0, a66r1, a66r2, a66r3, a66r4, a66r5, a66r6, a66r7, a66r8, a66r9, h1, h2, Int.toNat_natCast, hB', c1]
        exact Cl.fin rfl ⟨by rw [← hd]; rfl, rfl⟩
      · by_cases c2 : 57 < b
        · rw [dg, if_pos (.inr c2)] at hd
          simp only [go_sem, Nat.reduceAdd, Nat.reduceSub, Nat.reduceMul, Nat.reduceEqDiff, Nat.reduceLT, Nat.reduceLeDiff, Nat.reduceBEq, reduceIte, reduceCtorEq, Int.reduceToNat, Int.reduceLE, Int.reduceLT, Int.reduceBEq, Int.reduceBNe, a66, a66r0, a66r1, a66r2, a66r3, a66r4, a66r5, a66r6, a66r7, a66r8, a66r9, h1, h2, Int.toNat_natCast, hB', c1, c2]
          exact Cl.fin rfl ⟨by rw [← hd]; rfl, rfl⟩
        · rw [dg, if_neg (by omega)] at hd
          have hst := smallN_step (b := b) hn (by omega) (by omega) (by omega)
          simp only [go_sem, Nat.reduceAdd, Nat.reduceSub, Nat.reduceMul, Nat.reduceEqDiff, Nat.reduceLT, Nat.reduceLeDiff, Nat.reduceBEq, reduceIte, reduceCtorEq, Int.reduceToNat, Int.reduceLE, Int.reduceLT, Int.reduceBEq, Int.reduceBNe, a66, a66r0, a66r1, a66r2, a66r3, a66r4, a66r5, a66r6, a66r7, a66r8, a66r9, h1, h2, Int.toNat_natCast, hB', c1, c2]
          have hn' := hn
          unfold smallN at hn'
          rw [wrap_u8, Int.emod_eq_of_lt (a := b - 48) (by omega) (by omega), wrap_i64 (x := b - 48) (by omega) (by omega), wrap_i64 (x := 10 * n) (by omega) (by omega), wrap_i64 (x := 10 * n + (b - 48)) (by omega) (by omega), wrap_i64 (x := (i : Int) + 1) (by omega) (by omega)]
          refine Cl.here ⟨⟨i + 1, _, by omega, hst, hd, rfl, rfl⟩, ?_⟩
          simp only [go_sem, Nat.reduceAdd, Nat.reduceSub, Nat.reduceMul, Nat.reduceEqDiff, Nat.reduceLT, Nat.reduceLeDiff, Nat.reduceBEq, reduceIte, reduceCtorEq, Int.reduceToNat, Int.reduceLE, Int.reduceLT, Int.reduceBEq, Int.reduceBNe]
          omega
def parseP (s : ByteArray) : Int × Bool :=
  if s.size = 10 ∧ byt s 4 = 45 ∧ byt s 7 = 45 then
    match digP (s.extract 0 4), digP (s.extract 5 7), digP (s.extract 8 10) with
    | some y, some m, some d => dayP y m d
    | _, _, _ => (0, false)
  else (0, false)
theorem parse_ok (s : ByteArray) : AFn Tryd.prog 41 [.str s] [] (fun v rs => v = .tup [.int .i64 (parseP s).1, .bool (parseP s).2] ∧ rs = []) := by
  refine afn Tryd.func41 a41_ok (by simp [a41]) ?_
  have hbad : ¬ (s.size = 10 ∧ byt s 4 = 45 ∧ byt s 7 = 45) → parseP s = (0, false) := fun h => by rw [parseP, if_neg h]
  by_cases c0 : s.size = 10
  rotate_left
  · have h0 : ((s.size : Int) != 10) = true := by simp; omega
    rw [hbad (by simp [c0])]
    simp only [go_sem, Nat.reduceAdd, Nat.reduceSub, Nat.reduceMul, Nat.reduceEqDiff, Nat.reduceLT, Nat.reduceLeDiff, Nat.reduceBEq, reduceIte, reduceCtorEq, Int.reduceToNat, Int.reduceLE, Int.reduceLT, Int.reduceBEq, Int.reduceBNe, a41, a41r0, a41r1, a41r2, a41r3, a41r4, a41r5, a41r6, a41r7, a41r8, h0]
    exact Cl.fin rfl ⟨rfl, rfl⟩
  have h0 : ((s.size : Int) = 10) := by omega
  have q4 : ((s.data.getD 4 0).toNat : Int) = byt s 4 := rfl
  have q7 : ((s.data.getD 7 0).toNat : Int) = byt s 7 := rfl
  by_cases c4 : byt s 4 = 45
  rotate_left
  · rw [hbad (by simp [c4])]
    have c4 : (byt s 4 != 45) = true := by simp [c4]
    simp only [go_sem, Nat.reduceAdd, Nat.reduceSub, Nat.reduceMul, Nat.reduceEqDiff, Nat.reduceLT, Nat.reduceLeDiff, Nat.reduceBEq, reduceIte, reduceCtorEq, Int.reduceToNat, Int.reduceLE, Int.reduceLT, Int.reduceBEq, Int.reduceBNe, a41, a41r0, a41r1, a41r2, a41r3, a41r4, a41r5, a41r6, a41r7, a41r8, h0, q4, c4]
    exact Cl.fin rfl ⟨rfl, rfl⟩
  by_cases c7 : byt s 7 = 45
  rotate_left
  · rw [hbad (by simp [c7])]
    have c7 : (byt s 7 != 45) = true := by simp [c7]
    simp only [go_sem, Nat.reduceAdd, Nat.reduceSub, Nat.reduceMul, Nat.reduceEqDiff, Nat.reduceLT, Nat.reduceLeDiff, Nat.reduceBEq, reduceIte, reduceCtorEq, Int.reduceToNat, Int.reduceLE, Int.reduceLT, Int.reduceBEq, Int.reduceBNe, a41, a41r0, a41r1, a41r2, a41r3, a41r4, a41r5, a41r6, a41r7, a41r8, h0, q4, c4, q7, c7]
    exact Cl.fin rfl ⟨rfl, rfl⟩
  have hp : parseP s = match digP (s.extract 0 4), digP (s.extract 5 7), digP (s.extract 8 10) with
    | some y, some m, some d => dayP y m d
    | _, _, _ => (0, false) := by rw [parseP, if_pos ⟨c0, c4, c7⟩]
  have e1 := digits_ok (s.extract 0 4) (by rw [ByteArray.size_extract]; omega)
  have e2 := digits_ok (s.extract 5 7) (by rw [ByteArray.size_extract]; omega)
  have e3 := digits_ok (s.extract 8 10) (by rw [ByteArray.size_extract]; omega)
  rw [hp]
  simp only [go_sem, Nat.reduceAdd, Nat.reduceSub, Nat.reduceMul, Nat.reduceEqDiff, Nat.reduceLT, Nat.reduceLeDiff, Nat.reduceBEq, reduceIte, reduceCtorEq, Int.reduceToNat, Int.reduceLE, Int.reduceLT, Int.reduceBEq, Int.reduceBNe, a41, a41r0, a41r1, a41r2, a41r3, a41r4, a41r5, a41r6, a41r7, a41r8, h0, q4, c4, q7, c7]
  generalize digP (s.extract 0 4) = d1 at e1 ⊢
  generalize digP (s.extract 5 7) = d2 at e2 ⊢
  generalize digP (s.extract 8 10) = d3 at e3 ⊢
  rcases d1 with _ | y <;> rcases d2 with _ | m <;> rcases d3 with _ | d
  all_goals
    simp only [digV] at e1 e2 e3
    refine callC_det e1 rfl rfl ?_
    simp only [go_sem, Nat.reduceAdd, Nat.reduceSub, Nat.reduceMul, Nat.reduceEqDiff, Nat.reduceLT, Nat.reduceLeDiff, Nat.reduceBEq, reduceIte, reduceCtorEq, Int.reduceToNat, Int.reduceLE, Int.reduceLT, Int.reduceBEq, Int.reduceBNe, h0]
    refine callC_det e2 rfl rfl ?_
    simp only [go_sem, Nat.reduceAdd, Nat.reduceSub, Nat.reduceMul, Nat.reduceEqDiff, Nat.reduceLT, Nat.reduceLeDiff, Nat.reduceBEq, reduceIte, reduceCtorEq, Int.reduceToNat, Int.reduceLE, Int.reduceLT, Int.reduceBEq, Int.reduceBNe, h0]
    refine callC_det e3 rfl rfl ?_
    simp only [go_sem, Nat.reduceAdd, Nat.reduceSub, Nat.reduceMul, Nat.reduceEqDiff, Nat.reduceLT, Nat.reduceLeDiff, Nat.reduceBEq, reduceIte, reduceCtorEq, Int.reduceToNat, Int.reduceLE, Int.reduceLT, Int.reduceBEq, Int.reduceBNe]
  all_goals
    first
    | exact Cl.fin rfl ⟨rfl, rfl⟩
    | (refine callC_det (day_ok y m d) rfl rfl ?_
       simp only [go_sem, Nat.reduceAdd, Nat.reduceSub, Nat.reduceMul, Nat.reduceEqDiff, Nat.reduceLT, Nat.reduceLeDiff, Nat.reduceBEq, reduceIte, reduceCtorEq, Int.reduceToNat, Int.reduceLE, Int.reduceLT, Int.reduceBEq, Int.reduceBNe]
       exact Cl.fin rfl ⟨rfl, rfl⟩)
end Go.Proofs.YtpmlihjdegekgaaDoor
