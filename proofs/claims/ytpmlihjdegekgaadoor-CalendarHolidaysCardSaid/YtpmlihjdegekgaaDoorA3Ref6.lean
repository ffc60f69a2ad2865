/- The reference: the holidays of a year. -/
import Derived.Test.YtpmlihjdegekgaaDoorA3Ref5
set_option linter.unusedSimpArgs false
set_option linter.unusedVariables false
set_option linter.unusedSectionVars false
namespace Go.Proofs.YtpmlihjdegekgaaDoor
open Go Go.Abs
open Go.RowKit (Below)
set_option linter.unusedSimpArgs false
set_option linter.unusedVariables false

theorem insU_lt {d : Int} : ∀ {l : List Int} {k : Nat}, k ≤ l.length → (∀ j (hj : j < k) (hl : j < l.length), l[j] < d) → (∀ (hk : k < l.length), d < l[k]) → insU d l = l.take k ++ d :: l.drop k
  | [], 0, _, _, _ => rfl
  | [], k + 1, h, _, _ => by simp at h
  | x :: t, 0, _, _, h2 => by
    have := h2 (by simp)
    simp only [List.getElem_cons_zero] at this
    rw [insU, if_neg (by omega), if_neg (by omega)]; rfl
  | x :: t, k + 1, h, h1, h2 => by
    have hx := h1 0 (by omega) (by simp)
    simp only [List.getElem_cons_zero] at hx
    rw [insU, if_pos hx]
    have := insU_lt (d := d) (l := t) (k := k) (by simpa using h) (fun j hj hl => by have := h1 (j + 1) (by omega) (by simpa using hl); exact this) (fun hk => by have := h2 (by simpa using hk); exact this)
    rw [this]; rfl
theorem insU_eq {d : Int} : ∀ {l : List Int} {k : Nat} (hk : k < l.length), (∀ j (hj : j < k) (hl : j < l.length), l[j] < d) → l[k] = d → insU d l = l
  | x :: t, 0, _, _, h2 => by
    simp only [List.getElem_cons_zero] at h2
    rw [insU, if_neg (by omega), if_pos h2]
  | x :: t, k + 1, h, h1, h2 => by
    have hx := h1 0 (by omega) (by simp)
    simp only [List.getElem_cons_zero] at hx
    rw [insU, if_pos hx]
    have := insU_eq (d := d) (l := t) (k := k) (by simpa using h) (fun j hj hl => by have := h1 (j + 1) (by omega) (by simpa using hl); exact this) h2
    rw [this]
theorem insU_length (d : Int) : ∀ l : List Int, (insU d l).length ≤ l.length + 1
  | [] => by simp [insU]
  | x :: t => by
    have := insU_length d t
    unfold insU
    split
    · simp; omega
    · split <;> simp
theorem refH_take {l : List Hol} {y : Int} {i : Nat} (h : i < l.length) : refH (l.take (i + 1)) y = insO (refH (l.take i) y) (namO l[i] y) := by
  unfold refH
  rw [List.take_add_one, List.getElem?_eq_getElem h, Option.toList_some, List.foldl_append]
  rfl
theorem refH_length (l : List Hol) (y : Int) : ∀ i, i ≤ l.length → (refH (l.take i) y).length ≤ i
  | 0, _ => by simp [refH]
  | i + 1, h => by
    rw [refH_take (by omega)]
    have := refH_length l y i (by omega)
    cases namO l[i] y with
    | none => simp only [insO]; omega
    | some d => have := insU_length d (refH (l.take i) y); simp only [insO]; omega

theorem rHolidays_ok (l : List Hol) (hl : l.length ≤ 9223372036854775806) (y : Int) : AFn Tryd.prog 14 [.pure 6 (els l), .int .i64 y] [] (fun v rs => v = hoV l y ∧ rs = []) := by
  refine afn Tryd.func14 a14_ok (by simp [a14]) ?_
  simp only [go_sem, Nat.reduceAdd, Nat.reduceSub, Nat.reduceMul, Nat.reduceEqDiff, Nat.reduceLT, Nat.reduceLeDiff, Nat.reduceBEq, reduceIte, reduceCtorEq, Int.reduceToNat, Int.reduceLE, Int.reduceLT, Int.reduceBEq, Int.reduceBNe, a14, a14r0, a14r1, a14r2, a14r3, a14r4, a14r5, a14r6, a14r7, a14r8, a14r9, a14r10, a14r11, a14r12, a14r13, a14r14, a14r15, a14r16, a14r17, a14r18, a14r19]
  refine callC_det (rValid_ok l hl) rfl rfl ?_
  simp only [go_sem, Nat.reduceAdd, Nat.reduceSub, Nat.reduceMul, Nat.reduceEqDiff, Nat.reduceLT, Nat.reduceLeDiff, Nat.reduceBEq, reduceIte, reduceCtorEq, Int.reduceToNat, Int.reduceLE, Int.reduceLT, Int.reduceBEq, Int.reduceBNe]
  refine condC_intro ?_ ?_ <;> intro hv <;> simp only [decide_eq_true_eq, decide_eq_false_iff_not, beq_iff_eq, beq_eq_false_iff_ne, bne_iff_ne, bne_eq_false_iff_eq, Bool.not_eq_true', Bool.not_eq_false', Int.not_lt, Int.not_le, ne_eq, Bool.and_eq_true, Bool.or_eq_true, Bool.or_eq_false_iff, Bool.and_eq_false_iff] at hv <;> simp only [go_sem, Nat.reduceAdd, Nat.reduceSub, Nat.reduceMul, Nat.reduceEqDiff, Nat.reduceLT, Nat.reduceLeDiff, Nat.reduceBEq, reduceIte, reduceCtorEq, Int.reduceToNat, Int.reduceLE, Int.reduceLT, Int.reduceBEq, Int.reduceBNe, a14, a14r0, a14r1, a14r2, a14r3, a14r4, a14r5, a14r6, a14r7, a14r8, a14r9, a14r10, a14r11, a14r12, a14r13, a14r14, a14r15, a14r16, a14r17, a14r18, a14r19]
  · exact Cl.fin rfl ⟨by rw [hoV, if_neg hv], rfl⟩
  rw [hoV, if_pos hv]
  obtain ⟨hl2, hvl⟩ := validP_zero hv
  refine callC_det (rInYears_ok y) rfl rfl ?_
  simp only [go_sem, Nat.reduceAdd, Nat.reduceSub, Nat.reduceMul, Nat.reduceEqDiff, Nat.reduceLT, Nat.reduceLeDiff, Nat.reduceBEq, reduceIte, reduceCtorEq, Int.reduceToNat, Int.reduceLE, Int.reduceLT, Int.reduceBEq, Int.reduceBNe]
  by_cases hy : okY y
  rotate_left
  · rw [if_neg hy]
    simp only [go_sem, Nat.reduceAdd, Nat.reduceSub, Nat.reduceMul, Nat.reduceEqDiff, Nat.reduceLT, Nat.reduceLeDiff, Nat.reduceBEq, reduceIte, reduceCtorEq, Int.reduceToNat, Int.reduceLE, Int.reduceLT, Int.reduceBEq, Int.reduceBNe, hy]
    exact Cl.fin rfl ⟨rfl, rfl⟩
  rw [if_pos hy, ← refH_eq]
  simp only [go_sem, Nat.reduceAdd, Nat.reduceSub, Nat.reduceMul, Nat.reduceEqDiff, Nat.reduceLT, Nat.reduceLeDiff, Nat.reduceBEq, reduceIte, reduceCtorEq, Int.reduceToNat, Int.reduceLE, Int.reduceLT, Int.reduceBEq, Int.reduceBNe, hy]
  refine avc_loop (fun env rows => ∃ i : Nat, i ≤ l.length ∧ env = [(0, .pure 6 (els l)), (1, .int .i64 y), (7, .own 0 (refH (l.take i) y).length 0 (refH (l.take i) y).length), (8, .int .i64 i)] ∧ rows = [.live 3 1 (numsE .i64 (refH (l.take i) y))])
    (fun env _ => match slot env 8 with | .int _ j => (l.length - j).toNat | _ => 0) ?_ ?_
  · (refine Cl.ghost 7  3  1 rfl (Cl.norm [ 0, 1, 7, 8] ?_); simp only [go_sem, Nat.reduceAdd, Nat.reduceSub, Nat.reduceMul, Nat.reduceEqDiff, Nat.reduceLT, Nat.reduceLeDiff, Nat.reduceBEq, reduceIte, reduceCtorEq, Int.reduceToNat, Int.reduceLE, Int.reduceLT, Int.reduceBEq, Int.reduceBNe])
    exact Cl.here ⟨0, by omega, by simp [refH], by simp [refH, numsE]⟩
  · rintro env rows ⟨i, hi, rfl, rfl⟩
    have hlen := refH_length l y i hi
    simp only [go_sem, Nat.reduceAdd, Nat.reduceSub, Nat.reduceMul, Nat.reduceEqDiff, Nat.reduceLT, Nat.reduceLeDiff, Nat.reduceBEq, reduceIte, reduceCtorEq, Int.reduceToNat, Int.reduceLE, Int.reduceLT, Int.reduceBEq, Int.reduceBNe, a14, a14r0, a14r1, a14r2, a14r3, a14r4, a14r5, a14r6, a14r7, a14r8, a14r9, a14r10, a14r11, a14r12, a14r13, a14r14, a14r15, a14r16, a14r17, a14r18, a14r19]
    refine condC_intro ?_ ?_ <;> intro hg2 <;> simp only [decide_eq_true_eq, decide_eq_false_iff_not, beq_iff_eq, beq_eq_false_iff_ne, bne_iff_ne, bne_eq_false_iff_eq, Bool.not_eq_true', Bool.not_eq_false', Int.not_lt, Int.not_le, ne_eq, Bool.and_eq_true, Bool.or_eq_true, Bool.or_eq_false_iff, Bool.and_eq_false_iff] at hg2 <;> simp only [go_sem, Nat.reduceAdd, Nat.reduceSub, Nat.reduceMul, Nat.reduceEqDiff, Nat.reduceLT, Nat.reduceLeDiff, Nat.reduceBEq, reduceIte, reduceCtorEq, Int.reduceToNat, Int.reduceLE, Int.reduceLT, Int.reduceBEq, Int.reduceBNe, a14, a14r0, a14r1, a14r2, a14r3, a14r4, a14r5, a14r6, a14r7, a14r8, a14r9, a14r10, a14r11, a14r12, a14r13, a14r14, a14r15, a14r16, a14r17, a14r18, a14r19]
    · have hlt : i < l.length := by omega
      have hw : IntKind.i64.wrap ((i : Int) + 1) = ((i + 1 : Nat) : Int) := by rw [wrap_i64 (by omega) (by omega)]; omega
      have hr := validL_get hvl hlt
      have hT := refH_take (y := y) hlt
      refine ⟨by omega, by omega, ?_⟩
      try simp only [Int.toNat_natCast]
      rw [els_getD hlt]
      generalize l[i] = hh at hr hT ⊢
      have hnext : ∀ {zs : List Int}, zs = insO (refH (l.take i) y) (namO hh y) → (∃ i_1 : Nat, i_1 ≤ l.length ∧ ([(0, .pure 6 (els l)), (1, .int .i64 y), (7, .own 0 zs.length 0 zs.length), (8, .int .i64 ((i + 1 : Nat) : Int))] : Env) = [(0, .pure 6 (els l)), (1, .int .i64 y), (7, .own 0 (refH (l.take i_1) y).length 0 (refH (l.take i_1) y).length), (8, .int .i64 i_1)] ∧ ([.live 3 1 (numsE .i64 zs)] : List Row) = [.live 3 1 (numsE .i64 (refH (l.take i_1) y))]) := by
        intro zs hz
        exact ⟨i + 1, by omega, by rw [hT, ← hz], by rw [hT, ← hz]⟩
      generalize refH (l.take i) y = zs at *
      simp only [go_sem, Nat.reduceAdd, Nat.reduceSub, Nat.reduceMul, Nat.reduceEqDiff, Nat.reduceLT, Nat.reduceLeDiff, Nat.reduceBEq, reduceIte, reduceCtorEq, Int.reduceToNat, Int.reduceLE, Int.reduceLT, Int.reduceBEq, Int.reduceBNe, cel_hol_take, cel_hol_len, cel_hol_one]
      refine callC_det (rnamed_ok hh y hr hy) rfl rfl ?_
      rcases hno : namO hh y with _ | d
      · rw [hno] at hnext
        rw [rnV, hno]
        simp only [go_sem, Nat.reduceAdd, Nat.reduceSub, Nat.reduceMul, Nat.reduceEqDiff, Nat.reduceLT, Nat.reduceLeDiff, Nat.reduceBEq, reduceIte, reduceCtorEq, Int.reduceToNat, Int.reduceLE, Int.reduceLT, Int.reduceBEq, Int.reduceBNe, hw]
        refine Cl.here ⟨hnext rfl, ?_⟩
        simp only [go_sem, Nat.reduceAdd, Nat.reduceSub, Nat.reduceMul, Nat.reduceEqDiff, Nat.reduceLT, Nat.reduceLeDiff, Nat.reduceBEq, reduceIte, reduceCtorEq, Int.reduceToNat, Int.reduceLE, Int.reduceLT, Int.reduceBEq, Int.reduceBNe]
        omega
      · have hX : rnX hh y = d := by
          rw [namO, Option.filter_eq_some_iff] at hno
          rw [rnX, hno.1]; rfl
        rw [hno] at hnext
        rw [rnV, hno, hX]
        clear hX hT
        simp only [go_sem, Nat.reduceAdd, Nat.reduceSub, Nat.reduceMul, Nat.reduceEqDiff, Nat.reduceLT, Nat.reduceLeDiff, Nat.reduceBEq, reduceIte, reduceCtorEq, Int.reduceToNat, Int.reduceLE, Int.reduceLT, Int.reduceBEq, Int.reduceBNe]
        refine avc_loop (fun env rows => ∃ k : Nat, k ≤ zs.length ∧ (∀ j (hj : j < k) (hl : j < zs.length), zs[j] < d) ∧ env = [(0, .pure 6 (els l)), (1, .int .i64 y), (7, .own 0 zs.length 0 zs.length), (8, .int .i64 i), (9, .int .i64 d), (11, .int .i64 k)] ∧ rows = [.live 3 1 (numsE .i64 zs)])
          (fun env _ => match slot env 11 with | .int _ j => (zs.length - j).toNat | _ => 0) ?_ ?_
        · exact Cl.here ⟨0, by omega, fun j hj => by omega, rfl, rfl⟩
        · rintro env rows ⟨k, hk, hlow, rfl, rfl⟩
          have hwk : IntKind.i64.wrap ((k : Int) + 1) = ((k + 1 : Nat) : Int) := by rw [wrap_i64 (by omega) (by omega)]; omega
          simp only [go_sem, Nat.reduceAdd, Nat.reduceSub, Nat.reduceMul, Nat.reduceEqDiff, Nat.reduceLT, Nat.reduceLeDiff, Nat.reduceBEq, reduceIte, reduceCtorEq, Int.reduceToNat, Int.reduceLE, Int.reduceLT, Int.reduceBEq, Int.reduceBNe, a14, a14r0, a14r1, a14r2, a14r3, a14r4, a14r5, a14r6, a14r7, a14r8, a14r9, a14r10, a14r11, a14r12, a14r13, a14r14, a14r15, a14r16, a14r17, a14r18, a14r19]
          by_cases hkl : k < zs.length
          · have hkl' : (k : Int) < zs.length := by omega
            have hget : (numsE .i64 zs).getD k [] = [.int .i64 zs[k]] := by rw [numsE_getD hkl, List.getD_eq_getElem?_getD, List.getElem?_eq_getElem hkl, Option.getD_some]
            simp only [go_sem, Nat.reduceAdd, Nat.reduceSub, Nat.reduceMul, Nat.reduceEqDiff, Nat.reduceLT, Nat.reduceLeDiff, Nat.reduceBEq, reduceIte, reduceCtorEq, Int.reduceToNat, Int.reduceLE, Int.reduceLT, Int.reduceBEq, Int.reduceBNe, hkl']
            refine ⟨by omega, ?_⟩
            try simp only [Int.toNat_natCast]
            rw [hget]
            simp only [go_sem, Nat.reduceAdd, Nat.reduceSub, Nat.reduceMul, Nat.reduceEqDiff, Nat.reduceLT, Nat.reduceLeDiff, Nat.reduceBEq, reduceIte, reduceCtorEq, Int.reduceToNat, Int.reduceLE, Int.reduceLT, Int.reduceBEq, Int.reduceBNe]
            refine condC_intro ?_ ?_ <;> intro hg3 <;> simp only [decide_eq_true_eq, decide_eq_false_iff_not, beq_iff_eq, beq_eq_false_iff_ne, bne_iff_ne, bne_eq_false_iff_eq, Bool.not_eq_true', Bool.not_eq_false', Int.not_lt, Int.not_le, ne_eq, Bool.and_eq_true, Bool.or_eq_true, Bool.or_eq_false_iff, Bool.and_eq_false_iff] at hg3 <;> simp only [go_sem, Nat.reduceAdd, Nat.reduceSub, Nat.reduceMul, Nat.reduceEqDiff, Nat.reduceLT, Nat.reduceLeDiff, Nat.reduceBEq, reduceIte, reduceCtorEq, Int.reduceToNat, Int.reduceLE, Int.reduceLT, Int.reduceBEq, Int.reduceBNe, a14, a14r0, a14r1, a14r2, a14r3, a14r4, a14r5, a14r6, a14r7, a14r8, a14r9, a14r10, a14r11, a14r12, a14r13, a14r14, a14r15, a14r16, a14r17, a14r18, a14r19, hwk]
            · refine Cl.here ⟨⟨k + 1, by omega, fun j hj hl => ?_, rfl, rfl⟩, ?_⟩
              · by_cases hjk : j = k
                · subst hjk; exact hg3
                · exact hlow j (by omega) hl
              · simp only [go_sem, Nat.reduceAdd, Nat.reduceSub, Nat.reduceMul, Nat.reduceEqDiff, Nat.reduceLT, Nat.reduceLeDiff, Nat.reduceBEq, reduceIte, reduceCtorEq, Int.reduceToNat, Int.reduceLE, Int.reduceLT, Int.reduceBEq, Int.reduceBNe]
                omega
            · simp only [go_sem, Nat.reduceAdd, Nat.reduceSub, Nat.reduceMul, Nat.reduceEqDiff, Nat.reduceLT, Nat.reduceLeDiff, Nat.reduceBEq, reduceIte, reduceCtorEq, Int.reduceToNat, Int.reduceLE, Int.reduceLT, Int.reduceBEq, Int.reduceBNe, hkl']
              refine ⟨by omega, ?_⟩
              try simp only [Int.toNat_natCast]
              rw [hget]
              simp only [go_sem, Nat.reduceAdd, Nat.reduceSub, Nat.reduceMul, Nat.reduceEqDiff, Nat.reduceLT, Nat.reduceLeDiff, Nat.reduceBEq, reduceIte, reduceCtorEq, Int.reduceToNat, Int.reduceLE, Int.reduceLT, Int.reduceBEq, Int.reduceBNe]
              refine condC_intro ?_ ?_ <;> intro hg4 <;> simp only [decide_eq_true_eq, decide_eq_false_iff_not, beq_iff_eq, beq_eq_false_iff_ne, bne_iff_ne, bne_eq_false_iff_eq, Bool.not_eq_true', Bool.not_eq_false', Int.not_lt, Int.not_le, ne_eq, Bool.and_eq_true, Bool.or_eq_true, Bool.or_eq_false_iff, Bool.and_eq_false_iff] at hg4 <;> simp only [go_sem, Nat.reduceAdd, Nat.reduceSub, Nat.reduceMul, Nat.reduceEqDiff, Nat.reduceLT, Nat.reduceLeDiff, Nat.reduceBEq, reduceIte, reduceCtorEq, Int.reduceToNat, Int.reduceLE, Int.reduceLT, Int.reduceBEq, Int.reduceBNe, a14, a14r0, a14r1, a14r2, a14r3, a14r4, a14r5, a14r6, a14r7, a14r8, a14r9, a14r10, a14r11, a14r12, a14r13, a14r14, a14r15, a14r16, a14r17, a14r18, a14r19, hw]
              · refine Cl.here ⟨hnext (insU_eq hkl hlow hg4).symm, ?_⟩
                simp only [go_sem, Nat.reduceAdd, Nat.reduceSub, Nat.reduceMul, Nat.reduceEqDiff, Nat.reduceLT, Nat.reduceLeDiff, Nat.reduceBEq, reduceIte, reduceCtorEq, Int.reduceToNat, Int.reduceLE, Int.reduceLT, Int.reduceBEq, Int.reduceBNe]
                omega
              · have hl1 : (zs ++ [0]).length = zs.length + 1 := by simp
                have hk2 : k + (zs.length + 1 - k) = zs.length + 1 := by omega
                have hk3 : k + 1 + (zs.length + 1 - (k + 1)) = zs.length + 1 := by omega
                simp only [go_sem, Nat.reduceAdd, Nat.reduceSub, Nat.reduceMul, Nat.reduceEqDiff, Nat.reduceLT, Nat.reduceLeDiff, Nat.reduceBEq, reduceIte, reduceCtorEq, Int.reduceToNat, Int.reduceLE, Int.reduceLT, Int.reduceBEq, Int.reduceBNe, hwk, hl1, hk2]
                repeat (refine And.intro (by first | rfl | omega) ?_)
                have hpart : List.take (min (List.take (zs.length + 1 - k) (List.drop k (zs ++ [0]))).length (zs.length + 1 - (k + 1))) (List.take (zs.length + 1 - k) (List.drop k (zs ++ [0]))) = zs.drop k := overL_part hk (by simp only [List.length_take, List.length_drop, hl1]; omega) (by simp only [List.length_take, List.length_drop, hl1]; omega)
                rw [hpart]
                have hol := overL_length (z := (0 : Int)) hk
                have hos := overL_set (z := (0 : Int)) (x := d) hk
                generalize overL (zs ++ [0]) (k + 1) (zs.drop k) = ws at hol hos ⊢
                have hkw : k < ws.length := by omega
                have hgw : (numsE .i64 ws).getD k [] = [.int .i64 ws[k]] := by rw [numsE_getD hkw, List.getD_eq_getElem?_getD, List.getElem?_eq_getElem hkw, Option.getD_some]
                refine ⟨hol.symm, by omega, by omega, hol.symm, ?_⟩
                try simp only [Int.toNat_natCast]
                rw [hgw]
                simp only [go_sem, Nat.reduceAdd, Nat.reduceSub, Nat.reduceMul, Nat.reduceEqDiff, Nat.reduceLT, Nat.reduceLeDiff, Nat.reduceBEq, reduceIte, reduceCtorEq, Int.reduceToNat, Int.reduceLE, Int.reduceLT, Int.reduceBEq, Int.reduceBNe, numsE_set, hos, hw]
                have hins : insU d zs = zs.take k ++ d :: zs.drop k := insU_lt hk hlow (fun hk' => by omega)
                have hwl : zs.length + 1 = (zs.take k ++ d :: zs.drop k).length := by rw [← hos, List.length_set, hol]
                rw [← hins] at hwl ⊢
                rw [hwl]
                (refine Cl.tr [some 0] [] rfl rfl (by simp only [go_sem, Nat.reduceAdd, Nat.reduceSub, Nat.reduceMul, Nat.reduceEqDiff, Nat.reduceLT, Nat.reduceLeDiff, Nat.reduceBEq, reduceIte, reduceCtorEq, Int.reduceToNat, Int.reduceLE, Int.reduceLT, Int.reduceBEq, Int.reduceBNe] <;> rfl) ?_; simp only [go_sem, Nat.reduceAdd, Nat.reduceSub, Nat.reduceMul, Nat.reduceEqDiff, Nat.reduceLT, Nat.reduceLeDiff, Nat.reduceBEq, reduceIte, reduceCtorEq, Int.reduceToNat, Int.reduceLE, Int.reduceLT, Int.reduceBEq, Int.reduceBNe])
                refine Cl.here ⟨hnext rfl, ?_⟩
                simp only [go_sem, Nat.reduceAdd, Nat.reduceSub, Nat.reduceMul, Nat.reduceEqDiff, Nat.reduceLT, Nat.reduceLeDiff, Nat.reduceBEq, reduceIte, reduceCtorEq, Int.reduceToNat, Int.reduceLE, Int.reduceLT, Int.reduceBEq, Int.reduceBNe]
                omega
          · have hkl' : ¬ (k : Int) < zs.length := by omega
            simp only [go_sem, Nat.reduceAdd, Nat.reduceSub, Nat.reduceMul, Nat.reduceEqDiff, Nat.reduceLT, Nat.reduceLeDiff, Nat.reduceBEq, reduceIte, reduceCtorEq, Int.reduceToNat, Int.reduceLE, Int.reduceLT, Int.reduceBEq, Int.reduceBNe, hkl']
            have hl1 : (zs ++ [0]).length = zs.length + 1 := by simp
            have hk2 : k + (zs.length + 1 - k) = zs.length + 1 := by omega
            have hk3 : k + 1 + (zs.length + 1 - (k + 1)) = zs.length + 1 := by omega
            simp only [go_sem, Nat.reduceAdd, Nat.reduceSub, Nat.reduceMul, Nat.reduceEqDiff, Nat.reduceLT, Nat.reduceLeDiff, Nat.reduceBEq, reduceIte, reduceCtorEq, Int.reduceToNat, Int.reduceLE, Int.reduceLT, Int.reduceBEq, Int.reduceBNe, hwk, hl1, hk2]
            repeat (refine And.intro (by first | rfl | omega) ?_)
            have hpart : List.take (min (List.take (zs.length + 1 - k) (List.drop k (zs ++ [0]))).length (zs.length + 1 - (k + 1))) (List.take (zs.length + 1 - k) (List.drop k (zs ++ [0]))) = zs.drop k := overL_part hk (by simp only [List.length_take, List.length_drop, hl1]; omega) (by simp only [List.length_take, List.length_drop, hl1]; omega)
            rw [hpart]
            have hol := overL_length (z := (0 : Int)) hk
            have hos := overL_set (z := (0 : Int)) (x := d) hk
            generalize overL (zs ++ [0]) (k + 1) (zs.drop k) = ws at hol hos ⊢
            have hkw : k < ws.length := by omega
            have hgw : (numsE .i64 ws).getD k [] = [.int .i64 ws[k]] := by rw [numsE_getD hkw, List.getD_eq_getElem?_getD, List.getElem?_eq_getElem hkw, Option.getD_some]
            refine ⟨hol.symm, by omega, by omega, hol.symm, ?_⟩
            try simp only [Int.toNat_natCast]
            rw [hgw]
            simp only [go_sem, Nat.reduceAdd, Nat.reduceSub, Nat.reduceMul, Nat.reduceEqDiff, Nat.reduceLT, Nat.reduceLeDiff, Nat.reduceBEq, reduceIte, reduceCtorEq, Int.reduceToNat, Int.reduceLE, Int.reduceLT, Int.reduceBEq, Int.reduceBNe, numsE_set, hos, hw]
            have hins : insU d zs = zs.take k ++ d :: zs.drop k := insU_lt hk hlow (fun hk' => (hkl hk').elim)
            have hwl : zs.length + 1 = (zs.take k ++ d :: zs.drop k).length := by rw [← hos, List.length_set, hol]
            rw [← hins] at hwl ⊢
            rw [hwl]
            (refine Cl.tr [some 0] [] rfl rfl (by simp only [go_sem, Nat.reduceAdd, Nat.reduceSub, Nat.reduceMul, Nat.reduceEqDiff, Nat.reduceLT, Nat.reduceLeDiff, Nat.reduceBEq, reduceIte, reduceCtorEq, Int.reduceToNat, Int.reduceLE, Int.reduceLT, Int.reduceBEq, Int.reduceBNe] <;> rfl) ?_; simp only [go_sem, Nat.reduceAdd, Nat.reduceSub, Nat.reduceMul, Nat.reduceEqDiff, Nat.reduceLT, Nat.reduceLeDiff, Nat.reduceBEq, reduceIte, reduceCtorEq, Int.reduceToNat, Int.reduceLE, Int.reduceLT, Int.reduceBEq, Int.reduceBNe])
            refine Cl.here ⟨hnext rfl, ?_⟩
            simp only [go_sem, Nat.reduceAdd, Nat.reduceSub, Nat.reduceMul, Nat.reduceEqDiff, Nat.reduceLT, Nat.reduceLeDiff, Nat.reduceBEq, reduceIte, reduceCtorEq, Int.reduceToNat, Int.reduceLE, Int.reduceLT, Int.reduceBEq, Int.reduceBNe]
            omega
    · have hil : i = l.length := by omega
      subst hil
      rw [List.take_length] at *
      have hbv : bindV [.live 3 1 (numsE .i64 (refH l y))] [] [0] (.own 0 (refH l y).length 0 (refH l y).length) = .pure 1 (numsE .i64 (refH l y)) := bindV_frz rfl rfl rfl numsE_length.symm numsE_clean
      refine Cl.frz [] [0] rfl rfl (by simp only [go_sem, Nat.reduceAdd, Nat.reduceSub, Nat.reduceMul, Nat.reduceEqDiff, Nat.reduceLT, Nat.reduceLeDiff, Nat.reduceBEq, reduceIte, reduceCtorEq, Int.reduceToNat, Int.reduceLE, Int.reduceLT, Int.reduceBEq, Int.reduceBNe] <;> rfl) ?_
      simp only [go_sem, Nat.reduceAdd, Nat.reduceSub, Nat.reduceMul, Nat.reduceEqDiff, Nat.reduceLT, Nat.reduceLeDiff, Nat.reduceBEq, reduceIte, reduceCtorEq, Int.reduceToNat, Int.reduceLE, Int.reduceLT, Int.reduceBEq, Int.reduceBNe, hbv]
      exact Cl.here ⟨rfl, rfl⟩

end Go.Proofs.YtpmlihjdegekgaaDoor
