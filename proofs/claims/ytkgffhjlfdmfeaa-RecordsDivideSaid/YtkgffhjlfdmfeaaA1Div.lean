/- The statement RecordsDivide: its walk. -/
import Derived.Test.YtkgffhjlfdmfeaaA1Pl
import Derived.Test.YtkgffhjlfdmfeaaAbs32
set_option linter.unusedSimpArgs false
set_option linter.unusedVariables false
set_option linter.unusedSectionVars false
namespace Go.Proofs.Ytkgffhjlfdmfeaa
open Go Go.Abs Rec
set_option linter.unusedSimpArgs false

theorem recordsDivide (l : List Int) (hl : TapeOk l) (p : Int) (raw : List UInt8) (hr : raw.length ≤ 9223372036854775807) : AFn Try.prog 6 [.pure 1 (numsE .i64 l), .int .i64 p, .pure 1 (els raw)] [] (fun v _ => v = .bool true) := by
  refine afn Try.func6 a6_ok (by simp [a6]) ?_
  simp only [go_sem, Nat.reduceAdd, Nat.reduceSub, Nat.reduceMul, Nat.reduceEqDiff, Nat.reduceLT, Nat.reduceLeDiff, Nat.reduceBEq, reduceIte, reduceCtorEq, Int.reduceToNat, Int.reduceLE, Int.reduceLT, Int.reduceBEq, Int.reduceBNe, a6, a6r0, a6r1, a6r2, a6r3, a6r4, a6r5, a6r6, a6r7, a6r8, a6r9, a6r10]
  (refine callC_of [] [] (by simp) rfl (bindL_clean _ (by first | rfl | simp only [go_sem, Nat.reduceAdd, Nat.reduceSub, Nat.reduceMul, Nat.reduceEqDiff, Nat.reduceLT, Nat.reduceLeDiff, Nat.reduceBEq, reduceIte, reduceCtorEq, Int.reduceToNat, Int.reduceLE, Int.reduceLT, Int.reduceBEq, Int.reduceBNe])) (new_ok l) ?_; rintro _ _ ⟨rfl, rfl⟩; refine ⟨.inl rfl, ?_⟩; simp only [go_sem, Nat.reduceAdd, Nat.reduceSub, Nat.reduceMul, Nat.reduceEqDiff, Nat.reduceLT, Nat.reduceLeDiff, Nat.reduceBEq, reduceIte, reduceCtorEq, Int.reduceToNat, Int.reduceLE, Int.reduceLT, Int.reduceBEq, Int.reduceBNe])
  refine callC_of [0] [] (by decide) (tape_getRows rfl) (tape_bind rfl) (frames_ok l hl 5 (by omega) (by omega) 0 (by omega) (by omega)) ?_
  rintro _ _ ⟨a, bs, rfl, rfl, _, _, hbs⟩
  refine ⟨.inl rfl, ?_⟩
  simp only [go_sem, Nat.reduceAdd, Nat.reduceSub, Nat.reduceMul, Nat.reduceEqDiff, Nat.reduceLT, Nat.reduceLeDiff, Nat.reduceBEq, reduceIte, reduceCtorEq, Int.reduceToNat, Int.reduceLE, Int.reduceLT, Int.reduceBEq, Int.reduceBNe, tp]
  refine condC_cut (fun env rows => ∃ bs : List UInt8, slot env 1 = .int .i64 p ∧ slot env 7 = .own 1 bs.length 0 bs.length ∧ rows = [tapeRow 57 l a, .live 5 1 (els bs)] ∧ bs.length ≤ 3000) ?_ ?_ ?_
  · intro hc
    simp only [decide_eq_true_eq, decide_eq_false_iff_not, beq_iff_eq, beq_eq_false_iff_ne, bne_iff_ne, bne_eq_false_iff_eq, Bool.not_eq_true', Bool.not_eq_false', Int.not_lt, Int.not_le, ne_eq, Bool.and_eq_true, Bool.or_eq_true, Bool.or_eq_false_iff, Bool.and_eq_false_iff] at hc
    simp only [go_sem, Nat.reduceAdd, Nat.reduceSub, Nat.reduceMul, Nat.reduceEqDiff, Nat.reduceLT, Nat.reduceLeDiff, Nat.reduceBEq, reduceIte, reduceCtorEq, Int.reduceToNat, Int.reduceLE, Int.reduceLT, Int.reduceBEq, Int.reduceBNe, a6, a6r0, a6r1, a6r2, a6r3, a6r4, a6r5, a6r6, a6r7, a6r8, a6r9, a6r10]
    exact ⟨by omega, bs ++ raw, by simp, rfl, by simp; omega⟩
  · intro hc
    simp only [go_sem, Nat.reduceAdd, Nat.reduceSub, Nat.reduceMul, Nat.reduceEqDiff, Nat.reduceLT, Nat.reduceLeDiff, Nat.reduceBEq, reduceIte, reduceCtorEq, Int.reduceToNat, Int.reduceLE, Int.reduceLT, Int.reduceBEq, Int.reduceBNe, a6, a6r0, a6r1, a6r2, a6r3, a6r4, a6r5, a6r6, a6r7, a6r8, a6r9, a6r10]
    exact ⟨bs, rfl, rfl, by omega⟩
  clear hbs
  clear bs
  rintro env _ ⟨b, s1, s7, rfl, hb⟩
  simp only [go_sem, Nat.reduceAdd, Nat.reduceSub, Nat.reduceMul, Nat.reduceEqDiff, Nat.reduceLT, Nat.reduceLeDiff, Nat.reduceBEq, reduceIte, reduceCtorEq, Int.reduceToNat, Int.reduceLE, Int.reduceLT, Int.reduceBEq, Int.reduceBNe, a6, a6r0, a6r1, a6r2, a6r3, a6r4, a6r5, a6r6, a6r7, a6r8, a6r9, a6r10, s1, s7]
  rw [wrap_i64 (by omega) (by omega)]
  refine callC_det (mod_ok p _ (by omega) (by omega)) rfl rfl ?_
  have hm := mod_bounds (v := p) (n := (b.length : Int) + 1) (by omega)
  obtain ⟨cut, hcut⟩ : ∃ cut : Nat, mod p ((b.length : Int) + 1) = (cut : Int) := ⟨(mod p ((b.length : Int) + 1)).toNat, by omega⟩
  rw [hcut] at hm ⊢
  simp only [go_sem, Nat.reduceAdd, Nat.reduceSub, Nat.reduceMul, Nat.reduceEqDiff, Nat.reduceLT, Nat.reduceLeDiff, Nat.reduceBEq, reduceIte, reduceCtorEq, Int.reduceToNat, Int.reduceLE, Int.reduceLT, Int.reduceBEq, Int.reduceBNe, a6, a6r0, a6r1, a6r2, a6r3, a6r4, a6r5, a6r6, a6r7, a6r8, a6r9, a6r10, s1, s7]
  refine callC_lookNewAll (decode_ok b (by omega)) rfl (by rw [els_length]) els_clean ?_
  rintro _ _ ⟨rfl, rfl⟩
  refine ⟨rfl, by simp only [go_sem, Nat.reduceAdd, Nat.reduceSub, Nat.reduceMul, Nat.reduceEqDiff, Nat.reduceLT, Nat.reduceLeDiff, Nat.reduceBEq, reduceIte, reduceCtorEq, Int.reduceToNat, Int.reduceLE, Int.reduceLT, Int.reduceBEq, Int.reduceBNe], ?_⟩
  simp only [go_sem, Nat.reduceAdd, Nat.reduceSub, Nat.reduceMul, Nat.reduceEqDiff, Nat.reduceLT, Nat.reduceLeDiff, Nat.reduceBEq, reduceIte, reduceCtorEq, Int.reduceToNat, Int.reduceLE, Int.reduceLT, Int.reduceBEq, Int.reduceBNe, a6, a6r0, a6r1, a6r2, a6r3, a6r4, a6r5, a6r6, a6r7, a6r8, a6r9, a6r10]
  refine ⟨by omega, by omega, ?_⟩
  try simp only [Int.toNat_natCast, Nat.sub_zero]
  obtain ⟨d1, d2, d3, d4⟩ := decode_divide b cut (by omega)
  refine callC_lookNew (vals := els b) (by rw [List.drop_zero, els_take]; exact decode_ok (b.take cut) (by simp; omega)) rfl (by rw [els_length]) (by omega) els_clean ?_
  rintro _ _ ⟨rfl, rfl⟩
  refine ⟨rfl, by simp only [go_sem, Nat.reduceAdd, Nat.reduceSub, Nat.reduceMul, Nat.reduceEqDiff, Nat.reduceLT, Nat.reduceLeDiff, Nat.reduceBEq, reduceIte, reduceCtorEq, Int.reduceToNat, Int.reduceLE, Int.reduceLT, Int.reduceBEq, Int.reduceBNe], ?_⟩
  generalize hX : decode (b.take cut) = X at *
  simp only [go_sem, Nat.reduceAdd, Nat.reduceSub, Nat.reduceMul, Nat.reduceEqDiff, Nat.reduceLT, Nat.reduceLeDiff, Nat.reduceBEq, reduceIte, reduceCtorEq, Int.reduceToNat, Int.reduceLE, Int.reduceLT, Int.reduceBEq, Int.reduceBNe, a6, a6r0, a6r1, a6r2, a6r3, a6r4, a6r5, a6r6, a6r7, a6r8, a6r9, a6r10]
  have hw : IntKind.i64.wrap ((cut : Int) - (X.2.2 : Int)) = cut - X.2.2 := wrap_i64 (by omega) (by omega)
  repeat' (first | (refine grdC_intro ?_ ?_ <;> intro hg <;> (have hp := hg; try simp only [decide_eq_true_eq, decide_eq_false_iff_not, beq_iff_eq, beq_eq_false_iff_ne, bne_iff_ne, bne_eq_false_iff_eq, Bool.not_eq_true', Bool.not_eq_false', Int.not_lt, Int.not_le, ne_eq, Bool.and_eq_true, Bool.or_eq_true, Bool.or_eq_false_iff, Bool.and_eq_false_iff] at hp) <;> (first | omega | (simp only [go_sem, Nat.reduceAdd, Nat.reduceSub, Nat.reduceMul, Nat.reduceEqDiff, Nat.reduceLT, Nat.reduceLeDiff, Nat.reduceBEq, reduceIte, reduceCtorEq, Int.reduceToNat, Int.reduceLE, Int.reduceLT, Int.reduceBEq, Int.reduceBNe, hg, a6, a6r0, a6r1, a6r2, a6r3, a6r4, a6r5, a6r6, a6r7, a6r8, a6r9, a6r10, hw]; clear hg))) | (refine grdD_intro ?_ ?_ <;> intro hg <;> (have hp := hg; try simp only [decide_eq_true_eq, decide_eq_false_iff_not, beq_iff_eq, beq_eq_false_iff_ne, bne_iff_ne, bne_eq_false_iff_eq, Bool.not_eq_true', Bool.not_eq_false', Int.not_lt, Int.not_le, ne_eq, Bool.and_eq_true, Bool.or_eq_true, Bool.or_eq_false_iff, Bool.and_eq_false_iff] at hp) <;> (first | omega | (simp only [go_sem, Nat.reduceAdd, Nat.reduceSub, Nat.reduceMul, Nat.reduceEqDiff, Nat.reduceLT, Nat.reduceLeDiff, Nat.reduceBEq, reduceIte, reduceCtorEq, Int.reduceToNat, Int.reduceLE, Int.reduceLT, Int.reduceBEq, Int.reduceBNe, hg, a6, a6r0, a6r1, a6r2, a6r3, a6r4, a6r5, a6r6, a6r7, a6r8, a6r9, a6r10, hw]; clear hg))) | (refine condC_intro ?_ ?_ <;> intro hg <;> (have hp := hg; try simp only [decide_eq_true_eq, decide_eq_false_iff_not, beq_iff_eq, beq_eq_false_iff_ne, bne_iff_ne, bne_eq_false_iff_eq, Bool.not_eq_true', Bool.not_eq_false', Int.not_lt, Int.not_le, ne_eq, Bool.and_eq_true, Bool.or_eq_true, Bool.or_eq_false_iff, Bool.and_eq_false_iff] at hp) <;> (first | omega | (simp only [go_sem, Nat.reduceAdd, Nat.reduceSub, Nat.reduceMul, Nat.reduceEqDiff, Nat.reduceLT, Nat.reduceLeDiff, Nat.reduceBEq, reduceIte, reduceCtorEq, Int.reduceToNat, Int.reduceLE, Int.reduceLT, Int.reduceBEq, Int.reduceBNe, hg, a6, a6r0, a6r1, a6r2, a6r3, a6r4, a6r5, a6r6, a6r7, a6r8, a6r9, a6r10, hw]; clear hg))))
  refine ⟨by omega, by omega, ?_⟩
  try simp only [Int.toNat_natCast]
  refine ⟨by omega, ?_⟩
  have hA := decode_ok (b.drop X.2.2) (by simp; omega)
  have hv : els (b.drop X.2.2) = ((els b).drop X.2.2).take (b.length - X.2.2) := by
    rw [els_drop, List.take_of_length_le (by rw [els_length]; simp)]
  rw [hv] at hA
  refine callC_lookNew hA rfl (by rw [els_length]) (by omega) els_clean ?_
  rintro _ _ ⟨rfl, rfl⟩
  refine ⟨rfl, by simp only [go_sem, Nat.reduceAdd, Nat.reduceSub, Nat.reduceMul, Nat.reduceEqDiff, Nat.reduceLT, Nat.reduceLeDiff, Nat.reduceBEq, reduceIte, reduceCtorEq, Int.reduceToNat, Int.reduceLE, Int.reduceLT, Int.reduceBEq, Int.reduceBNe], ?_⟩
  generalize hY : decode (b.drop X.2.2) = Y at *
  have hbd := decode_bound (b := b)
  have hbx := decode_bound (b := b.take cut)
  have hby := decode_bound (b := b.drop X.2.2)
  have hl1 : (b.take cut).length = cut := by simp; omega
  have hl2 : (b.drop X.2.2).length = b.length - X.2.2 := by simp
  rw [hX] at hbx
  rw [hY] at hby
  rw [d3, d4] at *
  rw [List.length_append] at hbd
  simp only [go_sem, Nat.reduceAdd, Nat.reduceSub, Nat.reduceMul, Nat.reduceEqDiff, Nat.reduceLT, Nat.reduceLeDiff, Nat.reduceBEq, reduceIte, reduceCtorEq, Int.reduceToNat, Int.reduceLE, Int.reduceLT, Int.reduceBEq, Int.reduceBNe, a6, a6r0, a6r1, a6r2, a6r3, a6r4, a6r5, a6r6, a6r7, a6r8, a6r9, a6r10, List.take_length]
  refine ⟨by omega, by omega, ?_⟩
  refine callC_view [2, 8] ((same_ok (X.1 ++ Y.1) [] (by simp; omega) (by simp)).says (.cons .rfl (.cons says_nils (.cons .rfl (.cons says_nils .nil))))) ?_ ?_
  · simp only [go_sem, Nat.reduceAdd, Nat.reduceSub, Nat.reduceMul, Nat.reduceEqDiff, Nat.reduceLT, Nat.reduceLeDiff, Nat.reduceBEq, reduceIte, reduceCtorEq, Int.reduceToNat, Int.reduceLE, Int.reduceLT, Int.reduceBEq, Int.reduceBNe, List.take_length, List.length_append]
    rw [← List.length_append, List.take_length]
  · rintro _ rfl
    refine ⟨rfl, rfl, ?_⟩
    simp only [go_sem, Nat.reduceAdd, Nat.reduceSub, Nat.reduceMul, Nat.reduceEqDiff, Nat.reduceLT, Nat.reduceLeDiff, Nat.reduceBEq, reduceIte, reduceCtorEq, Int.reduceToNat, Int.reduceLE, Int.reduceLT, Int.reduceBEq, Int.reduceBNe]
    have he : (IntKind.i64.wrap ((X.2.2 : Int) + (Y.2.2 : Int)) == ((X.2.2 + Y.2.2 : Nat) : Int)) = true := by
      rw [wrap_i64 (by omega) (by omega), beq_iff_eq]; omega
    rw [he]
    simp only [go_sem, Nat.reduceAdd, Nat.reduceSub, Nat.reduceMul, Nat.reduceEqDiff, Nat.reduceLT, Nat.reduceLeDiff, Nat.reduceBEq, reduceIte, reduceCtorEq, Int.reduceToNat, Int.reduceLE, Int.reduceLT, Int.reduceBEq, Int.reduceBNe]
    refine callC_det sane_ok rfl rfl ?_
    simp only [go_sem, Nat.reduceAdd, Nat.reduceSub, Nat.reduceMul, Nat.reduceEqDiff, Nat.reduceLT, Nat.reduceLeDiff, Nat.reduceBEq, reduceIte, reduceCtorEq, Int.reduceToNat, Int.reduceLE, Int.reduceLT, Int.reduceBEq, Int.reduceBNe]
    exact Cl.fin rfl rfl
end Go.Proofs.Ytkgffhjlfdmfeaa
