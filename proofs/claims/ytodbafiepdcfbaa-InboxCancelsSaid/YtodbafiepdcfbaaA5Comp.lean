/- slices.Compact at events and at keys. -/
import Derived.Test.YtodbafiepdcfbaaA5Un
set_option linter.unusedSimpArgs false
set_option linter.unusedVariables false
set_option linter.unusedSectionVars false
namespace Go.Proofs.Ytodbafiepdcfbaa
open Go Go.Abs
set_option linter.unusedSimpArgs false
set_option linter.unusedVariables false

theorem fits_ev (e : Ev) : fits [.int .i64, .int .i64, .int .i64, .int .i64, .int .i64, .int .i64, .int .i64] (Cel.c e) := by simp [fits, cel_ev]
theorem eqc_ev (a b : Ev) : eqCells (Cel.c a) (Cel.c b) = decide (a = b) := by
  rw [Bool.eq_iff_iff, decide_eq_true_eq]
  simp only [cel_ev, eqCells, Bool.and_eq_true, beq_iff_eq, and_true]
  constructor
  · rintro ⟨h1, h2, h3, h4, h5, h6, h7⟩
    exact Ev.ext' h1 h2 h3 h4 h5 h6 h7
  · rintro rfl
    simp
theorem fits_ky (e : Ky) : fits [.int .i64, .int .i64] (Cel.c e) := by simp [fits, cel_ky]
theorem eqc_ky (a b : Ky) : eqCells (Cel.c a) (Cel.c b) = decide (a = b) := by
  rw [Bool.eq_iff_iff, decide_eq_true_eq]
  simp only [cel_ky, eqCells, Bool.and_eq_true, beq_iff_eq, and_true]
  constructor
  · rintro ⟨h1, h2⟩
    exact Ky.ext' h1 h2
  · rintro rfl
    simp
theorem fits_stamp (e : Stamp) : fits [.int .i64, .int .i64, .int .i64, .int .i64] (Cel.c e) := by simp [fits, cel_stamp]
theorem eqc_stamp (a b : Stamp) : eqCells (Cel.c a) (Cel.c b) = decide (a = b) := by
  rw [Bool.eq_iff_iff, decide_eq_true_eq]
  simp only [cel_stamp, eqCells, Bool.and_eq_true, beq_iff_eq, and_true]
  constructor
  · rintro ⟨h1, h2, h3, h4⟩
    exact Stamp.ext' h1 h2 h3 h4
  · rintro rfl
    simp
theorem drop_get {α : Type} {C l : List α} {m i : Nat} (h : C.drop m = l.drop m) (hm : m ≤ i) (h1 : i < C.length) (h2 : i < l.length) : C[i] = l[i] := by
  have e1 : (C.drop m)[i - m]? = some C[i] := by rw [List.getElem?_drop, show m + (i - m) = i from by omega, List.getElem?_eq_getElem h1]
  have e2 : (l.drop m)[i - m]? = some l[i] := by rw [List.getElem?_drop, show m + (i - m) = i from by omega, List.getElem?_eq_getElem h2]
  rw [h, e2] at e1
  exact (Option.some.inj e1).symm

theorem compactE_ok (l : List Ev) (hl : l.length ≤ 1000000000) : AFn Try.prog 78 [.own 0 l.length 0 l.length] [.live 64 7 (els l)]
    (fun v rs => v = .own 0 l.length 0 (dd l).length ∧ rs = [.live 64 7 (els (dd l ++ List.replicate (l.length - (dd l).length) (⟨0, 0, 0, 0, 0, 0, 0⟩ : Ev)))]) := by
  refine afn Try.func78 a78_ok (by simp [a78]) ?_
  simp only [go_sem, Nat.reduceAdd, Nat.reduceSub, Nat.reduceMul, Nat.reduceEqDiff, Nat.reduceLT, Nat.reduceLeDiff, Nat.reduceBEq, reduceIte, reduceCtorEq, Int.reduceToNat, Int.reduceLE, Int.reduceLT, Int.reduceBEq, Int.reduceBNe, a78, a78r0, a78r1, a78r2, a78r3, a78r4, a78r5, a78r6, a78r7, a78r8, a78r9, a78r10, a78r11, a78r12, a78r13, a78r14, a78r15, a78r16]
  refine condC_intro ?_ ?_ <;> intro hg <;> simp only [decide_eq_true_eq, decide_eq_false_iff_not, beq_iff_eq, beq_eq_false_iff_ne, bne_iff_ne, bne_eq_false_iff_eq, Bool.not_eq_true', Bool.not_eq_false', Int.not_lt, Int.not_le, ne_eq, Bool.and_eq_true, Bool.or_eq_true, Bool.or_eq_false_iff, Bool.and_eq_false_iff] at hg <;> simp only [go_sem, Nat.reduceAdd, Nat.reduceSub, Nat.reduceMul, Nat.reduceEqDiff, Nat.reduceLT, Nat.reduceLeDiff, Nat.reduceBEq, reduceIte, reduceCtorEq, Int.reduceToNat, Int.reduceLE, Int.reduceLT, Int.reduceBEq, Int.reduceBNe, a78, a78r0, a78r1, a78r2, a78r3, a78r4, a78r5, a78r6, a78r7, a78r8, a78r9, a78r10, a78r11, a78r12, a78r13, a78r14, a78r15, a78r16]
  · have e : dd l = l := by
      have := dd_same (l := l) l.length (Nat.le_refl _) (fun i h1 h2 h3 => by omega)
      rwa [List.take_length] at this
    exact Cl.here ⟨by rw [e]; rfl, by rw [e, Nat.sub_self]; simp⟩
  refine avc_loop (fun env rows => ∃ k : Nat, 1 ≤ k ∧ k ≤ l.length ∧ env = [(0, .own 0 l.length 0 l.length), (3, .int .i64 k)] ∧ rows = [.live 64 7 (els l)] ∧ (∀ i (h : i < l.length), 0 < i → i < k → l[i] ≠ l[i - 1]))
    (fun env _ => match slot env 3 with | .int _ j => (l.length - j).toNat | _ => 0) ?_ ?_
  · exact Cl.here ⟨1, by omega, by omega, rfl, rfl, fun i h h1 h2 => by omega⟩
  rintro env rows ⟨k, hk1, hkl, rfl, rfl, hd⟩
  have hw1 : IntKind.i64.wrap ((k : Int) + 1) = ((k + 1 : Nat) : Int) := by rw [wrap_i64 (by omega) (by omega)]; omega
  have hws : IntKind.i64.wrap ((k : Int) - 1) = ((k - 1 : Nat) : Int) := by rw [wrap_i64 (by omega) (by omega)]; omega
  simp only [go_sem, Nat.reduceAdd, Nat.reduceSub, Nat.reduceMul, Nat.reduceEqDiff, Nat.reduceLT, Nat.reduceLeDiff, Nat.reduceBEq, reduceIte, reduceCtorEq, Int.reduceToNat, Int.reduceLE, Int.reduceLT, Int.reduceBEq, Int.reduceBNe, a78, a78r0, a78r1, a78r2, a78r3, a78r4, a78r5, a78r6, a78r7, a78r8, a78r9, a78r10, a78r11, a78r12, a78r13, a78r14, a78r15, a78r16]
  refine condC_intro ?_ ?_ <;> intro hg1 <;> simp only [decide_eq_true_eq, decide_eq_false_iff_not, beq_iff_eq, beq_eq_false_iff_ne, bne_iff_ne, bne_eq_false_iff_eq, Bool.not_eq_true', Bool.not_eq_false', Int.not_lt, Int.not_le, ne_eq, Bool.and_eq_true, Bool.or_eq_true, Bool.or_eq_false_iff, Bool.and_eq_false_iff] at hg1 <;> simp only [go_sem, Nat.reduceAdd, Nat.reduceSub, Nat.reduceMul, Nat.reduceEqDiff, Nat.reduceLT, Nat.reduceLeDiff, Nat.reduceBEq, reduceIte, reduceCtorEq, Int.reduceToNat, Int.reduceLE, Int.reduceLT, Int.reduceBEq, Int.reduceBNe, a78, a78r0, a78r1, a78r2, a78r3, a78r4, a78r5, a78r6, a78r7, a78r8, a78r9, a78r10, a78r11, a78r12, a78r13, a78r14, a78r15, a78r16]
  rotate_left
  · have e : dd l = l := by
      have := dd_same (l := l) l.length (Nat.le_refl _) (fun i h1 h2 h3 => hd i h1 h2 (by omega))
      rwa [List.take_length] at this
    exact Cl.here ⟨by rw [e]; rfl, by rw [e, Nat.sub_self]; simp⟩
  have hlt : k < l.length := by omega
  have h0 : (0 : Int) ≤ k := by omega
  have h1 : (k : Int) < l.length := by omega
  have h2 : (0 : Int) ≤ ((k - 1 : Nat) : Int) := by omega
  have h3 : ((k - 1 : Nat) : Int) < l.length := by omega
  have g1 : (els l).getD k [] = Cel.c l[k] := els_getD hlt
  have g2 : (els l).getD (k - 1) [] = Cel.c l[k - 1] := els_getD (by omega)
  simp only [go_sem, Nat.reduceAdd, Nat.reduceSub, Nat.reduceMul, Nat.reduceEqDiff, Nat.reduceLT, Nat.reduceLeDiff, Nat.reduceBEq, reduceIte, reduceCtorEq, Int.reduceToNat, Int.reduceLE, Int.reduceLT, Int.reduceBEq, Int.reduceBNe, h0, h1, hws, h2, h3, g1, g2, fits_ev, eqc_ev]
  refine condC_intro ?_ ?_ <;> intro hg2 <;> simp only [decide_eq_true_eq, decide_eq_false_iff_not, beq_iff_eq, beq_eq_false_iff_ne, bne_iff_ne, bne_eq_false_iff_eq, Bool.not_eq_true', Bool.not_eq_false', Int.not_lt, Int.not_le, ne_eq, Bool.and_eq_true, Bool.or_eq_true, Bool.or_eq_false_iff, Bool.and_eq_false_iff] at hg2 <;> simp only [go_sem, Nat.reduceAdd, Nat.reduceSub, Nat.reduceMul, Nat.reduceEqDiff, Nat.reduceLT, Nat.reduceLeDiff, Nat.reduceBEq, reduceIte, reduceCtorEq, Int.reduceToNat, Int.reduceLE, Int.reduceLT, Int.reduceBEq, Int.reduceBNe, a78, a78r0, a78r1, a78r2, a78r3, a78r4, a78r5, a78r6, a78r7, a78r8, a78r9, a78r10, a78r11, a78r12, a78r13, a78r14, a78r15, a78r16]
  rotate_left
  · simp only [go_sem, Nat.reduceAdd, Nat.reduceSub, Nat.reduceMul, Nat.reduceEqDiff, Nat.reduceLT, Nat.reduceLeDiff, Nat.reduceBEq, reduceIte, reduceCtorEq, Int.reduceToNat, Int.reduceLE, Int.reduceLT, Int.reduceBEq, Int.reduceBNe, hw1]
    refine Cl.here ⟨⟨k + 1, by omega, by omega, rfl, rfl, fun i h i0 i1 => ?_⟩, ?_⟩
    · rcases Nat.lt_or_ge i k with hik | hik
      · exact hd i h i0 hik
      · obtain rfl : i = k := by omega
        exact hg2
    · simp only [go_sem, Nat.reduceAdd, Nat.reduceSub, Nat.reduceMul, Nat.reduceEqDiff, Nat.reduceLT, Nat.reduceLeDiff, Nat.reduceBEq, reduceIte, reduceCtorEq, Int.reduceToNat, Int.reduceLE, Int.reduceLT, Int.reduceBEq, Int.reduceBNe]
      omega
  have hkk : (k : Int) ≤ l.length := by omega
  have hnk : ((l.length - k : Nat) : Int) = (l.length : Int) - k := by omega
  simp only [go_sem, Nat.reduceAdd, Nat.reduceSub, Nat.reduceMul, Nat.reduceEqDiff, Nat.reduceLT, Nat.reduceLeDiff, Nat.reduceBEq, reduceIte, reduceCtorEq, Int.reduceToNat, Int.reduceLE, Int.reduceLT, Int.reduceBEq, Int.reduceBNe, h0, hkk, Int.le_refl]
  refine avc_loop (fun env rows => ∃ (j p : Nat) (C : List Ev), 1 ≤ j ∧ k + j ≤ l.length ∧ p + 1 ≤ k + j ∧ C.length = l.length ∧ C.drop (k + j - 1) = l.drop (k + j - 1) ∧ C.take p = dd (l.take (k + j)) ∧ env = [(0, .own 0 l.length 0 l.length), (3, .int .i64 p), (4, .own 0 l.length k (l.length - k)), (5, .int .i64 j)] ∧ rows = [.live 64 7 (els C)])
    (fun env _ => match slot env 5 with | .int _ j => (l.length - j).toNat | _ => 0) ?_ ?_
  · refine Cl.here ⟨1, k, l, by omega, by omega, by omega, rfl, rfl, ?_, rfl, rfl⟩
    rw [dd_take (by omega) hlt, if_pos hg2, dd_same k (by omega) hd]
  clear hg2 hw1 hws h1 h2 h3 g1 g2 hg1
  rintro env rows ⟨j, p, C, hj1, hjl, hpj, hCl, hCd, hCt, rfl, rfl⟩
  have hw1 : IntKind.i64.wrap ((j : Int) + 1) = ((j + 1 : Nat) : Int) := by rw [wrap_i64 (by omega) (by omega)]; omega
  have hwp : IntKind.i64.wrap ((p : Int) + 1) = ((p + 1 : Nat) : Int) := by rw [wrap_i64 (by omega) (by omega)]; omega
  have hws : IntKind.i64.wrap ((j : Int) - 1) = ((j - 1 : Nat) : Int) := by rw [wrap_i64 (by omega) (by omega)]; omega
  simp only [go_sem, Nat.reduceAdd, Nat.reduceSub, Nat.reduceMul, Nat.reduceEqDiff, Nat.reduceLT, Nat.reduceLeDiff, Nat.reduceBEq, reduceIte, reduceCtorEq, Int.reduceToNat, Int.reduceLE, Int.reduceLT, Int.reduceBEq, Int.reduceBNe, a78, a78r0, a78r1, a78r2, a78r3, a78r4, a78r5, a78r6, a78r7, a78r8, a78r9, a78r10, a78r11, a78r12, a78r13, a78r14, a78r15, a78r16]
  refine condC_intro ?_ ?_ <;> intro hg3 <;> simp only [decide_eq_true_eq, decide_eq_false_iff_not, beq_iff_eq, beq_eq_false_iff_ne, bne_iff_ne, bne_eq_false_iff_eq, Bool.not_eq_true', Bool.not_eq_false', Int.not_lt, Int.not_le, ne_eq, Bool.and_eq_true, Bool.or_eq_true, Bool.or_eq_false_iff, Bool.and_eq_false_iff] at hg3 <;> simp only [go_sem, Nat.reduceAdd, Nat.reduceSub, Nat.reduceMul, Nat.reduceEqDiff, Nat.reduceLT, Nat.reduceLeDiff, Nat.reduceBEq, reduceIte, reduceCtorEq, Int.reduceToNat, Int.reduceLE, Int.reduceLT, Int.reduceBEq, Int.reduceBNe, a78, a78r0, a78r1, a78r2, a78r3, a78r4, a78r5, a78r6, a78r7, a78r8, a78r9, a78r10, a78r11, a78r12, a78r13, a78r14, a78r15, a78r16]
  · have hq : k + j < C.length := by omega
    have c0 : (0 : Int) ≤ j := by omega
    have c1 : (j : Int) < ((l.length - k : Nat) : Int) := by omega
    have c2 : (0 : Int) ≤ ((j - 1 : Nat) : Int) := by omega
    have c3 : ((j - 1 : Nat) : Int) < ((l.length - k : Nat) : Int) := by omega
    have g1 : (els C).getD (k + j) [] = Cel.c C[k + j] := els_getD hq
    have g2 : (els C).getD (k + (j - 1)) [] = Cel.c (C[k + j - 1]'(by omega)) := by
      have e : k + (j - 1) = k + j - 1 := by omega
      rw [e]; exact els_getD (by omega)
    have e1 : C[k + j] = l[k + j]'(by omega) := drop_get hCd (by omega) hq (by omega)
    have e2 : C[k + j - 1]'(by omega) = l[k + j - 1]'(by omega) := drop_get hCd (by omega) (by omega) (by omega)
    rw [e1] at g1
    rw [e2] at g2
    have hnx := dd_take (l := l) (q := k + j) (by omega) (by omega)
    simp only [go_sem, Nat.reduceAdd, Nat.reduceSub, Nat.reduceMul, Nat.reduceEqDiff, Nat.reduceLT, Nat.reduceLeDiff, Nat.reduceBEq, reduceIte, reduceCtorEq, Int.reduceToNat, Int.reduceLE, Int.reduceLT, Int.reduceBEq, Int.reduceBNe, c0, c1, hws, c2, c3, g1, g2, fits_ev, eqc_ev, hCl]
    refine condC_intro ?_ ?_ <;> intro hg4 <;> simp only [go_sem, Nat.reduceAdd, Nat.reduceSub, Nat.reduceMul, Nat.reduceEqDiff, Nat.reduceLT, Nat.reduceLeDiff, Nat.reduceBEq, reduceIte, reduceCtorEq, Int.reduceToNat, Int.reduceLE, Int.reduceLT, Int.reduceBEq, Int.reduceBNe, a78, a78r0, a78r1, a78r2, a78r3, a78r4, a78r5, a78r6, a78r7, a78r8, a78r9, a78r10, a78r11, a78r12, a78r13, a78r14, a78r15, a78r16]
    · have hne : ¬ l[k + j]'(by omega) = l[k + j - 1]'(by omega) := by simpa using hg4
      rw [if_neg hne] at hnx
      have p0 : (0 : Int) ≤ p := by omega
      have p1 : (p : Int) < l.length := by omega
      have hp : p < C.length := by omega
      have hdr : ∀ x : Ev, List.drop 7 (Cel.c x) = [] := fun _ => rfl
      simp only [go_sem, Nat.reduceAdd, Nat.reduceSub, Nat.reduceMul, Nat.reduceEqDiff, Nat.reduceLT, Nat.reduceLeDiff, Nat.reduceBEq, reduceIte, reduceCtorEq, Int.reduceToNat, Int.reduceLE, Int.reduceLT, Int.reduceBEq, Int.reduceBNe, c0, c1, g1, p0, p1, hCl, hwp, hw1]
      rw [els_getD hp, hdr, List.append_nil, els_set]
      refine Cl.here ⟨⟨j + 1, p + 1, C.set p (l[k + j]'(by omega)), by omega, by omega, by omega, by rw [List.length_set]; exact hCl, ?_, ?_, rfl, rfl⟩, ?_⟩
      · rw [show k + (j + 1) - 1 = k + j from by omega, List.drop_set_of_lt (by omega)]
        have := congrArg (List.drop 1) hCd
        rwa [List.drop_drop, List.drop_drop, show k + j - 1 + 1 = k + j from by omega] at this
      · rw [show k + (j + 1) = k + j + 1 from by omega, hnx, ← hCt, List.take_succ_eq_append_getElem (by rw [List.length_set]; exact hp), List.take_set_of_le (by omega)]
        simp
      · simp only [go_sem, Nat.reduceAdd, Nat.reduceSub, Nat.reduceMul, Nat.reduceEqDiff, Nat.reduceLT, Nat.reduceLeDiff, Nat.reduceBEq, reduceIte, reduceCtorEq, Int.reduceToNat, Int.reduceLE, Int.reduceLT, Int.reduceBEq, Int.reduceBNe]
        omega
    · have he : l[k + j]'(by omega) = l[k + j - 1]'(by omega) := by simpa using hg4
      rw [if_pos he] at hnx
      simp only [go_sem, Nat.reduceAdd, Nat.reduceSub, Nat.reduceMul, Nat.reduceEqDiff, Nat.reduceLT, Nat.reduceLeDiff, Nat.reduceBEq, reduceIte, reduceCtorEq, Int.reduceToNat, Int.reduceLE, Int.reduceLT, Int.reduceBEq, Int.reduceBNe, hw1]
      refine Cl.here ⟨⟨j + 1, p, C, by omega, by omega, by omega, hCl, ?_, ?_, rfl, rfl⟩, ?_⟩
      · rw [show k + (j + 1) - 1 = k + j from by omega]
        have := congrArg (List.drop 1) hCd
        rwa [List.drop_drop, List.drop_drop, show k + j - 1 + 1 = k + j from by omega] at this
      · rw [show k + (j + 1) = k + j + 1 from by omega, hnx]; exact hCt
      · simp only [go_sem, Nat.reduceAdd, Nat.reduceSub, Nat.reduceMul, Nat.reduceEqDiff, Nat.reduceLT, Nat.reduceLeDiff, Nat.reduceBEq, reduceIte, reduceCtorEq, Int.reduceToNat, Int.reduceLE, Int.reduceLT, Int.reduceBEq, Int.reduceBNe]
        omega
  · have hjn : k + j = l.length := by omega
    rw [hjn, List.take_length] at hCt
    have hpl : p = (dd l).length := by rw [← hCt, List.length_take]; omega
    have p0 : (0 : Int) ≤ p := by omega
    have p1 : (p : Int) ≤ l.length := by omega
    simp only [go_sem, Nat.reduceAdd, Nat.reduceSub, Nat.reduceMul, Nat.reduceEqDiff, Nat.reduceLT, Nat.reduceLeDiff, Nat.reduceBEq, reduceIte, reduceCtorEq, Int.reduceToNat, Int.reduceLE, Int.reduceLT, Int.reduceBEq, Int.reduceBNe, p0, p1, Int.le_refl, hCl]
    refine ⟨by omega, ?_⟩
    have hz : List.replicate (l.length - p) [.int .i64 0, .int .i64 0, .int .i64 0, .int .i64 0, .int .i64 0, .int .i64 0, .int .i64 0] = els (List.replicate (l.length - p) (⟨0, 0, 0, 0, 0, 0, 0⟩ : Ev)) := by simp [els, cel_ev]
    rw [hz]
    simp only [go_sem, Nat.reduceAdd, Nat.reduceSub, Nat.reduceMul, Nat.reduceEqDiff, Nat.reduceLT, Nat.reduceLeDiff, Nat.reduceBEq, reduceIte, reduceCtorEq, Int.reduceToNat, Int.reduceLE, Int.reduceLT, Int.reduceBEq, Int.reduceBNe]
    have hov : overL C p (List.replicate (l.length - p) (⟨0, 0, 0, 0, 0, 0, 0⟩ : Ev)) = dd l ++ List.replicate (l.length - (dd l).length) (⟨0, 0, 0, 0, 0, 0, 0⟩ : Ev) := by
      unfold overL
      rw [hCt, List.length_replicate, List.drop_of_length_le (by omega), List.append_nil, hpl]
    rw [hov]
    have hle := dd_le l
    refine ⟨by rw [List.length_append, List.length_replicate]; omega, ?_⟩
    exact Cl.here ⟨by rw [← hpl]; rfl, rfl⟩


theorem compactK_ok (l : List Ky) (hl : l.length ≤ 1000000000) : AFn Try.prog 72 [.own 0 l.length 0 l.length] [.live 62 2 (els l)]
    (fun v rs => v = .own 0 l.length 0 (dd l).length ∧ rs = [.live 62 2 (els (dd l ++ List.replicate (l.length - (dd l).length) (⟨0, 0⟩ : Ky)))]) := by
  refine afn Try.func72 a72_ok (by simp [a72]) ?_
  simp only [go_sem, Nat.reduceAdd, Nat.reduceSub, Nat.reduceMul, Nat.reduceEqDiff, Nat.reduceLT, Nat.reduceLeDiff, Nat.reduceBEq, reduceIte, reduceCtorEq, Int.reduceToNat, Int.reduceLE, Int.reduceLT, Int.reduceBEq, Int.reduceBNe, a72, a72r0, a72r1, a72r2, a72r3, a72r4, a72r5, a72r6, a72r7, a72r8, a72r9, a72r10, a72r11, a72r12, a72r13, a72r14, a72r15, a72r16]
  refine condC_intro ?_ ?_ <;> intro hg <;> simp only [decide_eq_true_eq, decide_eq_false_iff_not, beq_iff_eq, beq_eq_false_iff_ne, bne_iff_ne, bne_eq_false_iff_eq, Bool.not_eq_true', Bool.not_eq_false', Int.not_lt, Int.not_le, ne_eq, Bool.and_eq_true, Bool.or_eq_true, Bool.or_eq_false_iff, Bool.and_eq_false_iff] at hg <;> simp only [go_sem, Nat.reduceAdd, Nat.reduceSub, Nat.reduceMul, Nat.reduceEqDiff, Nat.reduceLT, Nat.reduceLeDiff, Nat.reduceBEq, reduceIte, reduceCtorEq, Int.reduceToNat, Int.reduceLE, Int.reduceLT, Int.reduceBEq, Int.reduceBNe, a72, a72r0, a72r1, a72r2, a72r3, a72r4, a72r5, a72r6, a72r7, a72r8, a72r9, a72r10, a72r11, a72r12, a72r13, a72r14, a72r15, a72r16]
  · have e : dd l = l := by
      have := dd_same (l := l) l.length (Nat.le_refl _) (fun i h1 h2 h3 => by omega)
      rwa [List.take_length] at this
    exact Cl.here ⟨by rw [e]; rfl, by rw [e, Nat.sub_self]; simp⟩
  refine avc_loop (fun env rows => ∃ k : Nat, 1 ≤ k ∧ k ≤ l.length ∧ env = [(0, .own 0 l.length 0 l.length), (3, .int .i64 k)] ∧ rows = [.live 62 2 (els l)] ∧ (∀ i (h : i < l.length), 0 < i → i < k → l[i] ≠ l[i - 1]))
    (fun env _ => match slot env 3 with | .int _ j => (l.length - j).toNat | _ => 0) ?_ ?_
  · exact Cl.here ⟨1, by omega, by omega, rfl, rfl, fun i h h1 h2 => by omega⟩
  rintro env rows ⟨k, hk1, hkl, rfl, rfl, hd⟩
  have hw1 : IntKind.i64.wrap ((k : Int) + 1) = ((k + 1 : Nat) : Int) := by rw [wrap_i64 (by omega) (by omega)]; omega
  have hws : IntKind.i64.wrap ((k : Int) - 1) = ((k - 1 : Nat) : Int) := by rw [wrap_i64 (by omega) (by omega)]; omega
  simp only [go_sem, Nat.reduceAdd, Nat.reduceSub, Nat.reduceMul, Nat.reduceEqDiff, Nat.reduceLT, Nat.reduceLeDiff, Nat.reduceBEq, reduceIte, reduceCtorEq, Int.reduceToNat, Int.reduceLE, Int.reduceLT, Int.reduceBEq, Int.reduceBNe, a72, a72r0, a72r1, a72r2, a72r3, a72r4, a72r5, a72r6, a72r7, a72r8, a72r9, a72r10, a72r11, a72r12, a72r13, a72r14, a72r15, a72r16]
  refine condC_intro ?_ ?_ <;> intro hg1 <;> simp only [decide_eq_true_eq, decide_eq_false_iff_not, beq_iff_eq, beq_eq_false_iff_ne, bne_iff_ne, bne_eq_false_iff_eq, Bool.not_eq_true', Bool.not_eq_false', Int.not_lt, Int.not_le, ne_eq, Bool.and_eq_true, Bool.or_eq_true, Bool.or_eq_false_iff, Bool.and_eq_false_iff] at hg1 <;> simp only [go_sem, Nat.reduceAdd, Nat.reduceSub, Nat.reduceMul, Nat.reduceEqDiff, Nat.reduceLT, Nat.reduceLeDiff, Nat.reduceBEq, reduceIte, reduceCtorEq, Int.reduceToNat, Int.reduceLE, Int.reduceLT, Int.reduceBEq, Int.reduceBNe, a72, a72r0, a72r1, a72r2, a72r3, a72r4, a72r5, a72r6, a72r7, a72r8, a72r9, a72r10, a72r11, a72r12, a72r13, a72r14, a72r15, a72r16]
  rotate_left
  · have e : dd l = l := by
      have := dd_same (l := l) l.length (Nat.le_refl _) (fun i h1 h2 h3 => hd i h1 h2 (by omega))
      rwa [List.take_length] at this
    exact Cl.here ⟨by rw [e]; rfl, by rw [e, Nat.sub_self]; simp⟩
  have hlt : k < l.length := by omega
  have h0 : (0 : Int) ≤ k := by omega
  have h1 : (k : Int) < l.length := by omega
  have h2 : (0 : Int) ≤ ((k - 1 : Nat) : Int) := by omega
  have h3 : ((k - 1 : Nat) : Int) < l.length := by omega
  have g1 : (els l).getD k [] = Cel.c l[k] := els_getD hlt
  have g2 : (els l).getD (k - 1) [] = Cel.c l[k - 1] := els_getD (by omega)
  simp only [go_sem, Nat.reduceAdd, Nat.reduceSub, Nat.reduceMul, Nat.reduceEqDiff, Nat.reduceLT, Nat.reduceLeDiff, Nat.reduceBEq, reduceIte, reduceCtorEq, Int.reduceToNat, Int.reduceLE, Int.reduceLT, Int.reduceBEq, Int.reduceBNe, h0, h1, hws, h2, h3, g1, g2, fits_ky, eqc_ky]
  refine condC_intro ?_ ?_ <;> intro hg2 <;> simp only [decide_eq_true_eq, decide_eq_false_iff_not, beq_iff_eq, beq_eq_false_iff_ne, bne_iff_ne, bne_eq_false_iff_eq, Bool.not_eq_true', Bool.not_eq_false', Int.not_lt, Int.not_le, ne_eq, Bool.and_eq_true, Bool.or_eq_true, Bool.or_eq_false_iff, Bool.and_eq_false_iff] at hg2 <;> simp only [go_sem, Nat.reduceAdd, Nat.reduceSub, Nat.reduceMul, Nat.reduceEqDiff, Nat.reduceLT, Nat.reduceLeDiff, Nat.reduceBEq, reduceIte, reduceCtorEq, Int.reduceToNat, Int.reduceLE, Int.reduceLT, Int.reduceBEq, Int.reduceBNe, a72, a72r0, a72r1, a72r2, a72r3, a72r4, a72r5, a72r6, a72r7, a72r8, a72r9, a72r10, a72r11, a72r12, a72r13, a72r14, a72r15, a72r16]
  rotate_left
  · simp only [go_sem, Nat.reduceAdd, Nat.reduceSub, Nat.reduceMul, Nat.reduceEqDiff, Nat.reduceLT, Nat.reduceLeDiff, Nat.reduceBEq, reduceIte, reduceCtorEq, Int.reduceToNat, Int.reduceLE, Int.reduceLT, Int.reduceBEq, Int.reduceBNe, hw1]
    refine Cl.here ⟨⟨k + 1, by omega, by omega, rfl, rfl, fun i h i0 i1 => ?_⟩, ?_⟩
    · rcases Nat.lt_or_ge i k with hik | hik
      · exact hd i h i0 hik
      · obtain rfl : i = k := by omega
        exact hg2
    · simp only [go_sem, Nat.reduceAdd, Nat.reduceSub, Nat.reduceMul, Nat.reduceEqDiff, Nat.reduceLT, Nat.reduceLeDiff, Nat.reduceBEq, reduceIte, reduceCtorEq, Int.reduceToNat, Int.reduceLE, Int.reduceLT, Int.reduceBEq, Int.reduceBNe]
      omega
  have hkk : (k : Int) ≤ l.length := by omega
  have hnk : ((l.length - k : Nat) : Int) = (l.length : Int) - k := by omega
  simp only [go_sem, Nat.reduceAdd, Nat.reduceSub, Nat.reduceMul, Nat.reduceEqDiff, Nat.reduceLT, Nat.reduceLeDiff, Nat.reduceBEq, reduceIte, reduceCtorEq, Int.reduceToNat, Int.reduceLE, Int.reduceLT, Int.reduceBEq, Int.reduceBNe, h0, hkk, Int.le_refl]
  refine avc_loop (fun env rows => ∃ (j p : Nat) (C : List Ky), 1 ≤ j ∧ k + j ≤ l.length ∧ p + 1 ≤ k + j ∧ C.length = l.length ∧ C.drop (k + j - 1) = l.drop (k + j - 1) ∧ C.take p = dd (l.take (k + j)) ∧ env = [(0, .own 0 l.length 0 l.length), (3, .int .i64 p), (4, .own 0 l.length k (l.length - k)), (5, .int .i64 j)] ∧ rows = [.live 62 2 (els C)])
    (fun env _ => match slot env 5 with | .int _ j => (l.length - j).toNat | _ => 0) ?_ ?_
  · refine Cl.here ⟨1, k, l, by omega, by omega, by omega, rfl, rfl, ?_, rfl, rfl⟩
    rw [dd_take (by omega) hlt, if_pos hg2, dd_same k (by omega) hd]
  clear hg2 hw1 hws h1 h2 h3 g1 g2 hg1
  rintro env rows ⟨j, p, C, hj1, hjl, hpj, hCl, hCd, hCt, rfl, rfl⟩
  have hw1 : IntKind.i64.wrap ((j : Int) + 1) = ((j + 1 : Nat) : Int) := by rw [wrap_i64 (by omega) (by omega)]; omega
  have hwp : IntKind.i64.wrap ((p : Int) + 1) = ((p + 1 : Nat) : Int) := by rw [wrap_i64 (by omega) (by omega)]; omega
  have hws : IntKind.i64.wrap ((j : Int) - 1) = ((j - 1 : Nat) : Int) := by rw [wrap_i64 (by omega) (by omega)]; omega
  simp only [go_sem, Nat.reduceAdd, Nat.reduceSub, Nat.reduceMul, Nat.reduceEqDiff, Nat.reduceLT, Nat.reduceLeDiff, Nat.reduceBEq, reduceIte, reduceCtorEq, Int.reduceToNat, Int.reduceLE, Int.reduceLT, Int.reduceBEq, Int.reduceBNe, a72, a72r0, a72r1, a72r2, a72r3, a72r4, a72r5, a72r6, a72r7, a72r8, a72r9, a72r10, a72r11, a72r12, a72r13, a72r14, a72r15, a72r16]
  refine condC_intro ?_ ?_ <;> intro hg3 <;> simp only [decide_eq_true_eq, decide_eq_false_iff_not, beq_iff_eq, beq_eq_false_iff_ne, bne_iff_ne, bne_eq_false_iff_eq, Bool.not_eq_true', Bool.not_eq_false', Int.not_lt, Int.not_le, ne_eq, Bool.and_eq_true, Bool.or_eq_true, Bool.or_eq_false_iff, Bool.and_eq_false_iff] at hg3 <;> simp only [go_sem, Nat.reduceAdd, Nat.reduceSub, Nat.reduceMul, Nat.reduceEqDiff, Nat.reduceLT, Nat.reduceLeDiff, Nat.reduceBEq, reduceIte, reduceCtorEq, Int.reduceToNat, Int.reduceLE, Int.reduceLT, Int.reduceBEq, Int.reduceBNe, a72, a72r0, a72r1, a72r2, a72r3, a72r4, a72r5, a72r6, a72r7, a72r8, a72r9, a72r10, a72r11, a72r12, a72r13, a72r14, a72r15, a72r16]
  · have hq : k + j < C.length := by omega
    have c0 : (0 : Int) ≤ j := by omega
    have c1 : (j : Int) < ((l.length - k : Nat) : Int) := by omega
    have c2 : (0 : Int) ≤ ((j - 1 : Nat) : Int) := by omega
    have c3 : ((j - 1 : Nat) : Int) < ((l.length - k : Nat) : Int) := by omega
    have g1 : (els C).getD (k + j) [] = Cel.c C[k + j] := els_getD hq
    have g2 : (els C).getD (k + (j - 1)) [] = Cel.c (C[k + j - 1]'(by omega)) := by
      have e : k + (j - 1) = k + j - 1 := by omega
      rw [e]; exact els_getD (by omega)
    have e1 : C[k + j] = l[k + j]'(by omega) := drop_get hCd (by omega) hq (by omega)
    have e2 : C[k + j - 1]'(by omega) = l[k + j - 1]'(by omega) := drop_get hCd (by omega) (by omega) (by omega)
    rw [e1] at g1
    rw [e2] at g2
    have hnx := dd_take (l := l) (q := k + j) (by omega) (by omega)
    simp only [go_sem, Nat.reduceAdd, Nat.reduceSub, Nat.reduceMul, Nat.reduceEqDiff, Nat.reduceLT, Nat.reduceLeDiff, Nat.reduceBEq, reduceIte, reduceCtorEq, Int.reduceToNat, Int.reduceLE, Int.reduceLT, Int.reduceBEq, Int.reduceBNe, c0, c1, hws, c2, c3, g1, g2, fits_ky, eqc_ky, hCl]
    refine condC_intro ?_ ?_ <;> intro hg4 <;> simp only [go_sem, Nat.reduceAdd, Nat.reduceSub, Nat.reduceMul, Nat.reduceEqDiff, Nat.reduceLT, Nat.reduceLeDiff, Nat.reduceBEq, reduceIte, reduceCtorEq, Int.reduceToNat, Int.reduceLE, Int.reduceLT, Int.reduceBEq, Int.reduceBNe, a72, a72r0, a72r1, a72r2, a72r3, a72r4, a72r5, a72r6, a72r7, a72r8, a72r9, a72r10, a72r11, a72r12, a72r13, a72r14, a72r15, a72r16]
    · have hne : ¬ l[k + j]'(by omega) = l[k + j - 1]'(by omega) := by simpa using hg4
      rw [if_neg hne] at hnx
      have p0 : (0 : Int) ≤ p := by omega
      have p1 : (p : Int) < l.length := by omega
      have hp : p < C.length := by omega
      have hdr : ∀ x : Ky, List.drop 2 (Cel.c x) = [] := fun _ => rfl
      simp only [go_sem, Nat.reduceAdd, Nat.reduceSub, Nat.reduceMul, Nat.reduceEqDiff, Nat.reduceLT, Nat.reduceLeDiff, Nat.reduceBEq, reduceIte, reduceCtorEq, Int.reduceToNat, Int.reduceLE, Int.reduceLT, Int.reduceBEq, Int.reduceBNe, c0, c1, g1, p0, p1, hCl, hwp, hw1]
      rw [els_getD hp, hdr, List.append_nil, els_set]
      refine Cl.here ⟨⟨j + 1, p + 1, C.set p (l[k + j]'(by omega)), by omega, by omega, by omega, by rw [List.length_set]; exact hCl, ?_, ?_, rfl, rfl⟩, ?_⟩
      · rw [show k + (j + 1) - 1 = k + j from by omega, List.drop_set_of_lt (by omega)]
        have := congrArg (List.drop 1) hCd
        rwa [List.drop_drop, List.drop_drop, show k + j - 1 + 1 = k + j from by omega] at this
      · rw [show k + (j + 1) = k + j + 1 from by omega, hnx, ← hCt, List.take_succ_eq_append_getElem (by rw [List.length_set]; exact hp), List.take_set_of_le (by omega)]
        simp
      · simp only [go_sem, Nat.reduceAdd, Nat.reduceSub, Nat.reduceMul, Nat.reduceEqDiff, Nat.reduceLT, Nat.reduceLeDiff, Nat.reduceBEq, reduceIte, reduceCtorEq, Int.reduceToNat, Int.reduceLE, Int.reduceLT, Int.reduceBEq, Int.reduceBNe]
        omega
    · have he : l[k + j]'(by omega) = l[k + j - 1]'(by omega) := by simpa using hg4
      rw [if_pos he] at hnx
      simp only [go_sem, Nat.reduceAdd, Nat.reduceSub, Nat.reduceMul, Nat.reduceEqDiff, Nat.reduceLT, Nat.reduceLeDiff, Nat.reduceBEq, reduceIte, reduceCtorEq, Int.reduceToNat, Int.reduceLE, Int.reduceLT, Int.reduceBEq, Int.reduceBNe, hw1]
      refine Cl.here ⟨⟨j + 1, p, C, by omega, by omega, by omega, hCl, ?_, ?_, rfl, rfl⟩, ?_⟩
      · rw [show k + (j + 1) - 1 = k + j from by omega]
        have := congrArg (List.drop 1) hCd
        rwa [List.drop_drop, List.drop_drop, show k + j - 1 + 1 = k + j from by omega] at this
      · rw [show k + (j + 1) = k + j + 1 from by omega, hnx]; exact hCt
      · simp only [go_sem, Nat.reduceAdd, Nat.reduceSub, Nat.reduceMul, Nat.reduceEqDiff, Nat.reduceLT, Nat.reduceLeDiff, Nat.reduceBEq, reduceIte, reduceCtorEq, Int.reduceToNat, Int.reduceLE, Int.reduceLT, Int.reduceBEq, Int.reduceBNe]
        omega
  · have hjn : k + j = l.length := by omega
    rw [hjn, List.take_length] at hCt
    have hpl : p = (dd l).length := by rw [← hCt, List.length_take]; omega
    have p0 : (0 : Int) ≤ p := by omega
    have p1 : (p : Int) ≤ l.length := by omega
    simp only [go_sem, Nat.reduceAdd, Nat.reduceSub, Nat.reduceMul, Nat.reduceEqDiff, Nat.reduceLT, Nat.reduceLeDiff, Nat.reduceBEq, reduceIte, reduceCtorEq, Int.reduceToNat, Int.reduceLE, Int.reduceLT, Int.reduceBEq, Int.reduceBNe, p0, p1, Int.le_refl, hCl]
    refine ⟨by omega, ?_⟩
    have hz : List.replicate (l.length - p) [.int .i64 0, .int .i64 0] = els (List.replicate (l.length - p) (⟨0, 0⟩ : Ky)) := by simp [els, cel_ky]
    rw [hz]
    simp only [go_sem, Nat.reduceAdd, Nat.reduceSub, Nat.reduceMul, Nat.reduceEqDiff, Nat.reduceLT, Nat.reduceLeDiff, Nat.reduceBEq, reduceIte, reduceCtorEq, Int.reduceToNat, Int.reduceLE, Int.reduceLT, Int.reduceBEq, Int.reduceBNe]
    have hov : overL C p (List.replicate (l.length - p) (⟨0, 0⟩ : Ky)) = dd l ++ List.replicate (l.length - (dd l).length) (⟨0, 0⟩ : Ky) := by
      unfold overL
      rw [hCt, List.length_replicate, List.drop_of_length_le (by omega), List.append_nil, hpl]
    rw [hov]
    have hle := dd_le l
    refine ⟨by rw [List.length_append, List.length_replicate]; omega, ?_⟩
    exact Cl.here ⟨by rw [← hpl]; rfl, rfl⟩

end Go.Proofs.Ytodbafiepdcfbaa
