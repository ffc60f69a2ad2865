/- The statement RecordsDecode: its walk. -/
import Derived.Test.YtkgffhjlfdmfeaaA1Law
set_option linter.unusedSimpArgs false
set_option linter.unusedVariables false
set_option linter.unusedSectionVars false
namespace Go.Proofs.Ytkgffhjlfdmfeaa
open Go Go.Abs Rec
set_option linter.unusedSimpArgs false

theorem drop_u8 {bs : List UInt8} {i : Nat} : List.drop 1 ((els bs).getD i []) = [] := by
  by_cases h : i < bs.length
  · rw [els_getD h, cel_u8]; rfl
  · rw [List.getD_eq_getElem?_getD, List.getElem?_eq_none (by rw [els_length]; omega)]; rfl
attribute [go_sem] drop_u8 els_set List.length_set

theorem recordsDecode (l : List Int) (hl : TapeOk l) (b : List UInt8) (hb : b.length ≤ 9223372036854775807) : AFn Try.prog 4 [.pure 1 (numsE .i64 l), .pure 1 (els b)] [] (fun v _ => v = .bool true) := by
  refine afn Try.func4 a4_ok (by simp [a4]) ?_
  simp only [go_sem, Nat.reduceAdd, Nat.reduceSub, Nat.reduceMul, Nat.reduceEqDiff, Nat.reduceLT, Nat.reduceLeDiff, Nat.reduceBEq, reduceIte, reduceCtorEq, Int.reduceToNat, Int.reduceLE, Int.reduceLT, Int.reduceBEq, Int.reduceBNe, a4, a4r0, a4r1, a4r2, a4r3, a4r4, a4r5, a4r6, a4r7, a4r8, a4r9, a4r10, a4r11, a4r12]
  (refine callC_of [] [] (by simp) rfl (bindL_clean _ (by first | rfl | simp only [go_sem, Nat.reduceAdd, Nat.reduceSub, Nat.reduceMul, Nat.reduceEqDiff, Nat.reduceLT, Nat.reduceLeDiff, Nat.reduceBEq, reduceIte, reduceCtorEq, Int.reduceToNat, Int.reduceLE, Int.reduceLT, Int.reduceBEq, Int.reduceBNe])) (new_ok l) ?_; rintro _ _ ⟨rfl, rfl⟩; refine ⟨.inl rfl, ?_⟩; simp only [go_sem, Nat.reduceAdd, Nat.reduceSub, Nat.reduceMul, Nat.reduceEqDiff, Nat.reduceLT, Nat.reduceLeDiff, Nat.reduceBEq, reduceIte, reduceCtorEq, Int.reduceToNat, Int.reduceLE, Int.reduceLT, Int.reduceBEq, Int.reduceBNe])
  refine avc_loop (fun env rows => ∃ (a i : Int), env = [(1, .pure 1 (els b)), (5, .ref 0 1 0 0), (6, .int .i64 i)] ∧ rows = [tp l a] ∧ 0 ≤ a ∧ a ≤ l.length ∧ 0 ≤ i ∧ i ≤ 3)
    (fun env _ => match slot env 6 with | .int _ j => (3 - j).toNat | _ => 0) ?_ ?_
  · exact Cl.here ⟨0, 0, rfl, rfl, by omega, by omega, by omega, by omega⟩
  · rintro env rows ⟨at_, i, rfl, rfl, _, _, _, _⟩
    simp only [go_sem, Nat.reduceAdd, Nat.reduceSub, Nat.reduceMul, Nat.reduceEqDiff, Nat.reduceLT, Nat.reduceLeDiff, Nat.reduceBEq, reduceIte, reduceCtorEq, Int.reduceToNat, Int.reduceLE, Int.reduceLT, Int.reduceBEq, Int.reduceBNe, a4, a4r0, a4r1, a4r2, a4r3, a4r4, a4r5, a4r6, a4r7, a4r8, a4r9, a4r10, a4r11, a4r12]
    refine condC_intro ?_ ?_ <;> intro hg <;> simp only [decide_eq_true_eq, decide_eq_false_iff_not, beq_iff_eq, beq_eq_false_iff_ne, bne_iff_ne, bne_eq_false_iff_eq, Bool.not_eq_true', Bool.not_eq_false', Int.not_lt, Int.not_le, ne_eq, Bool.and_eq_true, Bool.or_eq_true, Bool.or_eq_false_iff, Bool.and_eq_false_iff] at hg <;> simp only [go_sem, Nat.reduceAdd, Nat.reduceSub, Nat.reduceMul, Nat.reduceEqDiff, Nat.reduceLT, Nat.reduceLeDiff, Nat.reduceBEq, reduceIte, reduceCtorEq, Int.reduceToNat, Int.reduceLE, Int.reduceLT, Int.reduceBEq, Int.reduceBNe, a4, a4r0, a4r1, a4r2, a4r3, a4r4, a4r5, a4r6, a4r7, a4r8, a4r9, a4r10, a4r11, a4r12]
    · refine callC_of [0] [] (by decide) (tape_getRows rfl) (tape_bind rfl) (frames_ok l hl 4 (by omega) (by omega) at_ (by omega) (by omega)) ?_
      rintro _ _ ⟨at_, bs, rfl, rfl, _, _, _⟩
      refine ⟨.inl rfl, ?_⟩
      simp only [go_sem, Nat.reduceAdd, Nat.reduceSub, Nat.reduceMul, Nat.reduceEqDiff, Nat.reduceLT, Nat.reduceLeDiff, Nat.reduceBEq, reduceIte, reduceCtorEq, Int.reduceToNat, Int.reduceLE, Int.reduceLT, Int.reduceBEq, Int.reduceBNe, tp]
      refine callC_lookAll (decodes_ok bs (by omega)) rfl (by rw [els_length]) els_clean rfl rfl ?_
      simp only [go_sem, Nat.reduceAdd, Nat.reduceSub, Nat.reduceMul, Nat.reduceEqDiff, Nat.reduceLT, Nat.reduceLeDiff, Nat.reduceBEq, reduceIte, reduceCtorEq, Int.reduceToNat, Int.reduceLE, Int.reduceLT, Int.reduceBEq, Int.reduceBNe, a4, a4r0, a4r1, a4r2, a4r3, a4r4, a4r5, a4r6, a4r7, a4r8, a4r9, a4r10, a4r11, a4r12]
      (refine Cl.tr [some 0] [] rfl rfl (by simp only [go_sem, Nat.reduceAdd, Nat.reduceSub, Nat.reduceMul, Nat.reduceEqDiff, Nat.reduceLT, Nat.reduceLeDiff, Nat.reduceBEq, reduceIte, reduceCtorEq, Int.reduceToNat, Int.reduceLE, Int.reduceLT, Int.reduceBEq, Int.reduceBNe] <;> rfl) ?_; simp only [go_sem, Nat.reduceAdd, Nat.reduceSub, Nat.reduceMul, Nat.reduceEqDiff, Nat.reduceLT, Nat.reduceLeDiff, Nat.reduceBEq, reduceIte, reduceCtorEq, Int.reduceToNat, Int.reduceLE, Int.reduceLT, Int.reduceBEq, Int.reduceBNe])
      rw [wrap_i64 (by omega) (by omega)]
      refine Cl.here ⟨⟨at_, i + 1, rfl, rfl, by omega, by omega, by omega, by omega⟩, ?_⟩
      simp only [go_sem, Nat.reduceAdd, Nat.reduceSub, Nat.reduceMul, Nat.reduceEqDiff, Nat.reduceLT, Nat.reduceLeDiff, Nat.reduceBEq, reduceIte, reduceCtorEq, Int.reduceToNat, Int.reduceLE, Int.reduceLT, Int.reduceBEq, Int.reduceBNe]
      omega
    · refine callC_det some_ok rfl rfl ?_
      simp only [go_sem, Nat.reduceAdd, Nat.reduceSub, Nat.reduceMul, Nat.reduceEqDiff, Nat.reduceLT, Nat.reduceLeDiff, Nat.reduceBEq, reduceIte, reduceCtorEq, Int.reduceToNat, Int.reduceLE, Int.reduceLT, Int.reduceBEq, Int.reduceBNe, tp]
      (refine callC_of [] [] (by simp) rfl (bindL_clean _ (by first | rfl | simp only [go_sem, Nat.reduceAdd, Nat.reduceSub, Nat.reduceMul, Nat.reduceEqDiff, Nat.reduceLT, Nat.reduceLeDiff, Nat.reduceBEq, reduceIte, reduceCtorEq, Int.reduceToNat, Int.reduceLE, Int.reduceLT, Int.reduceBEq, Int.reduceBNe])) (refEncode_ok someEv (by decide)) ?_; rintro _ _ ⟨rfl, rfl⟩; refine ⟨.inl rfl, ?_⟩; simp only [go_sem, Nat.reduceAdd, Nat.reduceSub, Nat.reduceMul, Nat.reduceEqDiff, Nat.reduceLT, Nat.reduceLeDiff, Nat.reduceBEq, reduceIte, reduceCtorEq, Int.reduceToNat, Int.reduceLE, Int.reduceLT, Int.reduceBEq, Int.reduceBNe])
      have hx := frame_length someEv
      generalize frame someEv = x at hx
      (refine callC_tape (next_ok l hl 22 (by omega)) rfl rfl (by omega) (by omega) ?_; rintro _ at_ _ _ ⟨ y, rfl, _, _⟩; simp only [go_sem, Nat.reduceAdd, Nat.reduceSub, Nat.reduceMul, Nat.reduceEqDiff, Nat.reduceLT, Nat.reduceLeDiff, Nat.reduceBEq, reduceIte, reduceCtorEq, Int.reduceToNat, Int.reduceLE, Int.reduceLT, Int.reduceBEq, Int.reduceBNe])
      (refine callC_tape (next_ok l hl 256 (by omega)) rfl rfl (by omega) (by omega) ?_; rintro _ at_ _ _ ⟨ z, rfl, _, _⟩; simp only [go_sem, Nat.reduceAdd, Nat.reduceSub, Nat.reduceMul, Nat.reduceEqDiff, Nat.reduceLT, Nat.reduceLeDiff, Nat.reduceBEq, reduceIte, reduceCtorEq, Int.reduceToNat, Int.reduceLE, Int.reduceLT, Int.reduceBEq, Int.reduceBNe])
      obtain ⟨w, rfl⟩ : ∃ w : Nat, z = (w : Int) := ⟨z.toNat, by omega⟩
      rw [wrap_u8]
      refine ⟨by omega, by omega, ?_⟩
      simp only [go_sem, Nat.reduceAdd, Nat.reduceSub, Nat.reduceMul, Nat.reduceEqDiff, Nat.reduceLT, Nat.reduceLeDiff, Nat.reduceBEq, reduceIte, reduceCtorEq, Int.reduceToNat, Int.reduceLE, Int.reduceLT, Int.reduceBEq, Int.reduceBNe, hx]
      rw [u8_cell, els_set]
      have hx2 : (x.set y.toNat (UInt8.ofNat w)).length = 24 := by simp [hx]
      generalize x.set y.toNat (UInt8.ofNat w) = x2 at hx2 ⊢
      refine ⟨by omega, ?_⟩
      refine callC_look (v := .int .i64 (crc (x2.take 22))) (by rw [List.drop_zero, els_take]; exact refSum_ok _ (by simp; omega)) rfl (by rw [els_length, hx2]) (by omega) els_clean rfl rfl ?_
      simp only [go_sem, Nat.reduceAdd, Nat.reduceSub, Nat.reduceMul, Nat.reduceEqDiff, Nat.reduceLT, Nat.reduceLeDiff, Nat.reduceBEq, reduceIte, reduceCtorEq, Int.reduceToNat, Int.reduceLE, Int.reduceLT, Int.reduceBEq, Int.reduceBNe, hx2, a4, a4r0, a4r1, a4r2, a4r3, a4r4, a4r5, a4r6, a4r7, a4r8, a4r9, a4r10, a4r11, a4r12]
      rw [shr_i64 (by omega), wrap_u8, wrap_u8, u8_cell]
      simp only [go_sem, Nat.reduceAdd, Nat.reduceSub, Nat.reduceMul, Nat.reduceEqDiff, Nat.reduceLT, Nat.reduceLeDiff, Nat.reduceBEq, reduceIte, reduceCtorEq, Int.reduceToNat, Int.reduceLE, Int.reduceLT, Int.reduceBEq, Int.reduceBNe, hx2]
      rw [u8_cell]
      simp only [go_sem, Nat.reduceAdd, Nat.reduceSub, Nat.reduceMul, Nat.reduceEqDiff, Nat.reduceLT, Nat.reduceLeDiff, Nat.reduceBEq, reduceIte, reduceCtorEq, Int.reduceToNat, Int.reduceLE, Int.reduceLT, Int.reduceBEq, Int.reduceBNe, hx2]
      have hx3 : ((x2.set 22 (UInt8.ofNat (crc (x2.take 22) / 2 ^ 8))).set 23 (UInt8.ofNat (crc (x2.take 22)))).length = 24 := by simp [hx2]
      generalize (x2.set 22 (UInt8.ofNat (crc (x2.take 22) / 2 ^ 8))).set 23 (UInt8.ofNat (crc (x2.take 22))) = x3 at hx3 ⊢
      refine grdC_intro ?_ ?_ <;> intro hc <;> simp only [go_sem, Nat.reduceAdd, Nat.reduceSub, Nat.reduceMul, Nat.reduceEqDiff, Nat.reduceLT, Nat.reduceLeDiff, Nat.reduceBEq, reduceIte, reduceCtorEq, Int.reduceToNat, Int.reduceLE, Int.reduceLT, Int.reduceBEq, Int.reduceBNe, hc] <;> simp only [decide_eq_true_eq, decide_eq_false_iff_not, beq_iff_eq, beq_eq_false_iff_ne, bne_iff_ne, bne_eq_false_iff_eq, Bool.not_eq_true', Bool.not_eq_false', Int.not_lt, Int.not_le, ne_eq, Bool.and_eq_true, Bool.or_eq_true, Bool.or_eq_false_iff, Bool.and_eq_false_iff] at hc
      · exact Cl.fin rfl rfl
      · refine callC_lookAll (decodes_ok x3 (by omega)) rfl (by rw [els_length, hx3]) els_clean rfl rfl ?_
        simp only [go_sem, Nat.reduceAdd, Nat.reduceSub, Nat.reduceMul, Nat.reduceEqDiff, Nat.reduceLT, Nat.reduceLeDiff, Nat.reduceBEq, reduceIte, reduceCtorEq, Int.reduceToNat, Int.reduceLE, Int.reduceLT, Int.reduceBEq, Int.reduceBNe]
        refine callC_det (decodes_ok b (by omega)) (by simp only [go_sem, Nat.reduceAdd, Nat.reduceSub, Nat.reduceMul, Nat.reduceEqDiff, Nat.reduceLT, Nat.reduceLeDiff, Nat.reduceBEq, reduceIte, reduceCtorEq, Int.reduceToNat, Int.reduceLE, Int.reduceLT, Int.reduceBEq, Int.reduceBNe]) rfl ?_
        simp only [go_sem, Nat.reduceAdd, Nat.reduceSub, Nat.reduceMul, Nat.reduceEqDiff, Nat.reduceLT, Nat.reduceLeDiff, Nat.reduceBEq, reduceIte, reduceCtorEq, Int.reduceToNat, Int.reduceLE, Int.reduceLT, Int.reduceBEq, Int.reduceBNe]
        refine callC_det sane_ok rfl rfl ?_
        simp only [go_sem, Nat.reduceAdd, Nat.reduceSub, Nat.reduceMul, Nat.reduceEqDiff, Nat.reduceLT, Nat.reduceLeDiff, Nat.reduceBEq, reduceIte, reduceCtorEq, Int.reduceToNat, Int.reduceLE, Int.reduceLT, Int.reduceBEq, Int.reduceBNe]
        exact Cl.fin rfl rfl
end Go.Proofs.Ytkgffhjlfdmfeaa
