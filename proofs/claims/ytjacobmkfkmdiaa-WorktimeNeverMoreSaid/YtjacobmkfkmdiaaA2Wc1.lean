/- Working time: the small functions. -/
import Derived.Test.YtjacobmkfkmdiaaA2Wk
import Derived.Test.YtjacobmkfkmdiaaA2WForms
set_option linter.unusedSimpArgs false
set_option linter.unusedVariables false
set_option linter.unusedSectionVars false
namespace Go.Proofs.Ytjacobmkfkmdiaa
open Go Go.Abs
set_option linter.unusedSimpArgs false

theorem wvalid_ok (f t : Int) : AFn Try.prog 55 [.agg [.int .i64 f, .int .i64 t]] [] (fun v rs => v = .bool (ivIn ⟨f, t⟩ 0 120968640) ∧ rs = []) := by
  refine afn Try.func55 a55_ok (by simp [a55]) ?_
  simp only [go_sem, Nat.reduceAdd, Nat.reduceSub, Nat.reduceMul, Nat.reduceEqDiff, Nat.reduceLT, Nat.reduceLeDiff, Nat.reduceBEq, reduceIte, reduceCtorEq, Int.reduceToNat, Int.reduceLE, Int.reduceLT, Int.reduceBEq, Int.reduceBNe, a55, a55r0, a55r1]
  repeat' (first | (refine grdC_intro ?_ ?_ <;> intro hg <;> (have hp := hg; try simp only [decide_eq_true_eq, decide_eq_false_iff_not, beq_iff_eq, beq_eq_false_iff_ne, bne_iff_ne, bne_eq_false_iff_eq, Bool.not_eq_true', Bool.not_eq_false', Int.not_lt, Int.not_le, ne_eq, Bool.and_eq_true, Bool.or_eq_true, Bool.or_eq_false_iff, Bool.and_eq_false_iff] at hp) <;> (first | omega | (simp only [go_sem, Nat.reduceAdd, Nat.reduceSub, Nat.reduceMul, Nat.reduceEqDiff, Nat.reduceLT, Nat.reduceLeDiff, Nat.reduceBEq, reduceIte, reduceCtorEq, Int.reduceToNat, Int.reduceLE, Int.reduceLT, Int.reduceBEq, Int.reduceBNe, hg, a55, a55r0, a55r1]; clear hg))) | (refine grdD_intro ?_ ?_ <;> intro hg <;> (have hp := hg; try simp only [decide_eq_true_eq, decide_eq_false_iff_not, beq_iff_eq, beq_eq_false_iff_ne, bne_iff_ne, bne_eq_false_iff_eq, Bool.not_eq_true', Bool.not_eq_false', Int.not_lt, Int.not_le, ne_eq, Bool.and_eq_true, Bool.or_eq_true, Bool.or_eq_false_iff, Bool.and_eq_false_iff] at hp) <;> (first | omega | (simp only [go_sem, Nat.reduceAdd, Nat.reduceSub, Nat.reduceMul, Nat.reduceEqDiff, Nat.reduceLT, Nat.reduceLeDiff, Nat.reduceBEq, reduceIte, reduceCtorEq, Int.reduceToNat, Int.reduceLE, Int.reduceLT, Int.reduceBEq, Int.reduceBNe, hg, a55, a55r0, a55r1]; clear hg))) | (refine condC_intro ?_ ?_ <;> intro hg <;> (have hp := hg; try simp only [decide_eq_true_eq, decide_eq_false_iff_not, beq_iff_eq, beq_eq_false_iff_ne, bne_iff_ne, bne_eq_false_iff_eq, Bool.not_eq_true', Bool.not_eq_false', Int.not_lt, Int.not_le, ne_eq, Bool.and_eq_true, Bool.or_eq_true, Bool.or_eq_false_iff, Bool.and_eq_false_iff] at hp) <;> (first | omega | (simp only [go_sem, Nat.reduceAdd, Nat.reduceSub, Nat.reduceMul, Nat.reduceEqDiff, Nat.reduceLT, Nat.reduceLeDiff, Nat.reduceBEq, reduceIte, reduceCtorEq, Int.reduceToNat, Int.reduceLE, Int.reduceLT, Int.reduceBEq, Int.reduceBNe, hg, a55, a55r0, a55r1]; clear hg))) | (refine condW_intro ?_ ?_ <;> intro hg <;> (have hp := hg; try simp only [decide_eq_true_eq, decide_eq_false_iff_not, beq_iff_eq, beq_eq_false_iff_ne, bne_iff_ne, bne_eq_false_iff_eq, Bool.not_eq_true', Bool.not_eq_false', Int.not_lt, Int.not_le, ne_eq, Bool.and_eq_true, Bool.or_eq_true, Bool.or_eq_false_iff, Bool.and_eq_false_iff] at hp) <;> (first | omega | (simp only [go_sem, Nat.reduceAdd, Nat.reduceSub, Nat.reduceMul, Nat.reduceEqDiff, Nat.reduceLT, Nat.reduceLeDiff, Nat.reduceBEq, reduceIte, reduceCtorEq, Int.reduceToNat, Int.reduceLE, Int.reduceLT, Int.reduceBEq, Int.reduceBNe, hg, a55, a55r0, a55r1]; clear hg))))
  all_goals (refine Cl.fin rfl ⟨congrArg AVal.bool ?_, rfl⟩; rw [ivIn, Bool.eq_iff_iff]; simp only [decide_eq_true_eq, decide_eq_false_iff_not, beq_iff_eq, beq_eq_false_iff_ne, bne_iff_ne, bne_eq_false_iff_eq, Bool.not_eq_true', Bool.not_eq_false', Int.not_lt, Int.not_le, ne_eq, Bool.and_eq_true, Bool.or_eq_true, Bool.or_eq_false_iff, Bool.and_eq_false_iff, Bool.false_eq_true, false_iff]; omega)

theorem near_ok (a b s : Int) (h1 : 0 ≤ a ∧ a ≤ 200000000) (h2 : 0 ≤ b ∧ b ≤ 200000000) : AFn Try.prog 76 [.int .i64 a, .int .i64 b, .int .i64 s] [] (fun v rs => v = .bool (decide (a - b ≤ s ∧ b - a ≤ s)) ∧ rs = []) := by
  refine afn Try.func76 a76_ok (by simp [a76]) ?_
  have hw1 : IntKind.i64.wrap (a - b) = a - b := wrap_i64 (by omega) (by omega)
  have hw2 : IntKind.i64.wrap (b - a) = b - a := wrap_i64 (by omega) (by omega)
  simp only [go_sem, Nat.reduceAdd, Nat.reduceSub, Nat.reduceMul, Nat.reduceEqDiff, Nat.reduceLT, Nat.reduceLeDiff, Nat.reduceBEq, reduceIte, reduceCtorEq, Int.reduceToNat, Int.reduceLE, Int.reduceLT, Int.reduceBEq, Int.reduceBNe, a76, a76r0, a76r1, hw1, hw2]
  repeat' (first | (refine grdC_intro ?_ ?_ <;> intro hg <;> (have hp := hg; try simp only [decide_eq_true_eq, decide_eq_false_iff_not, beq_iff_eq, beq_eq_false_iff_ne, bne_iff_ne, bne_eq_false_iff_eq, Bool.not_eq_true', Bool.not_eq_false', Int.not_lt, Int.not_le, ne_eq, Bool.and_eq_true, Bool.or_eq_true, Bool.or_eq_false_iff, Bool.and_eq_false_iff] at hp) <;> (first | omega | (simp only [go_sem, Nat.reduceAdd, Nat.reduceSub, Nat.reduceMul, Nat.reduceEqDiff, Nat.reduceLT, Nat.reduceLeDiff, Nat.reduceBEq, reduceIte, reduceCtorEq, Int.reduceToNat, Int.reduceLE, Int.reduceLT, Int.reduceBEq, Int.reduceBNe, hg, a76, a76r0, a76r1, hw1, hw2]; clear hg))) | (refine grdD_intro ?_ ?_ <;> intro hg <;> (have hp := hg; try simp only [decide_eq_true_eq, decide_eq_false_iff_not, beq_iff_eq, beq_eq_false_iff_ne, bne_iff_ne, bne_eq_false_iff_eq, Bool.not_eq_true', Bool.not_eq_false', Int.not_lt, Int.not_le, ne_eq, Bool.and_eq_true, Bool.or_eq_true, Bool.or_eq_false_iff, Bool.and_eq_false_iff] at hp) <;> (first | omega | (simp only [go_sem, Nat.reduceAdd, Nat.reduceSub, Nat.reduceMul, Nat.reduceEqDiff, Nat.reduceLT, Nat.reduceLeDiff, Nat.reduceBEq, reduceIte, reduceCtorEq, Int.reduceToNat, Int.reduceLE, Int.reduceLT, Int.reduceBEq, Int.reduceBNe, hg, a76, a76r0, a76r1, hw1, hw2]; clear hg))) | (refine condC_intro ?_ ?_ <;> intro hg <;> (have hp := hg; try simp only [decide_eq_true_eq, decide_eq_false_iff_not, beq_iff_eq, beq_eq_false_iff_ne, bne_iff_ne, bne_eq_false_iff_eq, Bool.not_eq_true', Bool.not_eq_false', Int.not_lt, Int.not_le, ne_eq, Bool.and_eq_true, Bool.or_eq_true, Bool.or_eq_false_iff, Bool.and_eq_false_iff] at hp) <;> (first | omega | (simp only [go_sem, Nat.reduceAdd, Nat.reduceSub, Nat.reduceMul, Nat.reduceEqDiff, Nat.reduceLT, Nat.reduceLeDiff, Nat.reduceBEq, reduceIte, reduceCtorEq, Int.reduceToNat, Int.reduceLE, Int.reduceLT, Int.reduceBEq, Int.reduceBNe, hg, a76, a76r0, a76r1, hw1, hw2]; clear hg))) | (refine condW_intro ?_ ?_ <;> intro hg <;> (have hp := hg; try simp only [decide_eq_true_eq, decide_eq_false_iff_not, beq_iff_eq, beq_eq_false_iff_ne, bne_iff_ne, bne_eq_false_iff_eq, Bool.not_eq_true', Bool.not_eq_false', Int.not_lt, Int.not_le, ne_eq, Bool.and_eq_true, Bool.or_eq_true, Bool.or_eq_false_iff, Bool.and_eq_false_iff] at hp) <;> (first | omega | (simp only [go_sem, Nat.reduceAdd, Nat.reduceSub, Nat.reduceMul, Nat.reduceEqDiff, Nat.reduceLT, Nat.reduceLeDiff, Nat.reduceBEq, reduceIte, reduceCtorEq, Int.reduceToNat, Int.reduceLE, Int.reduceLT, Int.reduceBEq, Int.reduceBNe, hg, a76, a76r0, a76r1, hw1, hw2]; clear hg))))
  all_goals (refine Cl.fin rfl ⟨congrArg AVal.bool ?_, rfl⟩; rw [Bool.eq_iff_iff]; simp only [decide_eq_true_eq, decide_eq_false_iff_not, beq_iff_eq, beq_eq_false_iff_ne, bne_iff_ne, bne_eq_false_iff_eq, Bool.not_eq_true', Bool.not_eq_false', Int.not_lt, Int.not_le, ne_eq, Bool.and_eq_true, Bool.or_eq_true, Bool.or_eq_false_iff, Bool.and_eq_false_iff, Bool.false_eq_true, false_iff]; omega)

theorem ivT_drop {l : List Iv} {k : Nat} (h : k < l.length) : ivT (l.drop k) = (l[k].to - l[k].fr) + ivT (l.drop (k + 1)) := by
  rw [drop_cons h, ivT]
theorem minP_drop {l : List Iv} {k : Nat} (h : k < l.length) : minP (l.drop k) = (if ivIn l[k] 0 120968640 then l[k].to - l[k].fr else 0) + minP (l.drop (k + 1)) := by
  rw [drop_cons h, minP]
theorem minP_bd : ∀ {l : List Iv}, 0 ≤ minP l ∧ minP l ≤ 120968640 * l.length
  | [] => by simp [minP]
  | v :: r => by
    have h := minP_bd (l := r)
    rw [minP, List.length_cons]
    split
    · rename_i h1
      simp only [ivIn, decide_eq_true_eq] at h1
      omega
    · omega
theorem ivT_bd : ∀ {l : List Iv}, ivsIn l → 0 ≤ ivT l ∧ ivT l ≤ 120968640 * l.length
  | [], _ => by simp [ivT]
  | v :: r, h => by
    have h1 := h v (by simp)
    have h2 := ivT_bd (l := r) (fun x hx => h x (by simp [hx]))
    rw [ivT, List.length_cons]; omega

theorem total_ok (l : List Iv) (hi : ivsIn l) (hl : l.length ≤ 1000000000) : AFn Try.prog 60 [.pure 2 (els l)] [] (fun v rs => v = .int .i64 (ivT l) ∧ rs = []) := by
  refine afn Try.func60 a60_ok (by simp [a60]) ?_
  simp only [go_sem, Nat.reduceAdd, Nat.reduceSub, Nat.reduceMul, Nat.reduceEqDiff, Nat.reduceLT, Nat.reduceLeDiff, Nat.reduceBEq, reduceIte, reduceCtorEq, Int.reduceToNat, Int.reduceLE, Int.reduceLT, Int.reduceBEq, Int.reduceBNe, a60, a60r0, a60r1, a60r2, a60r3, a60r4, a60r5, a60r6, a60r7]
  refine avc_loop (fun env rows => ∃ (k : Nat) (m : Int), k ≤ l.length ∧ m + ivT (l.drop k) = ivT l ∧ 0 ≤ m ∧ env = [(3, .int .i64 m), (6, .pure 2 (els l)), (7, .int .i64 l.length), (8, .int .i64 k)] ∧ rows = [])
    (fun env _ => match slot env 8 with | .int _ j => (l.length - j).toNat | _ => 0) ?_ ?_
  · exact Cl.here ⟨0, 0, by omega, by simp, by omega, rfl, rfl⟩
  · rintro env rows ⟨k, m, hk, hm, hm0, rfl, rfl⟩
    simp only [go_sem, Nat.reduceAdd, Nat.reduceSub, Nat.reduceMul, Nat.reduceEqDiff, Nat.reduceLT, Nat.reduceLeDiff, Nat.reduceBEq, reduceIte, reduceCtorEq, Int.reduceToNat, Int.reduceLE, Int.reduceLT, Int.reduceBEq, Int.reduceBNe, a60, a60r0, a60r1, a60r2, a60r3, a60r4, a60r5, a60r6, a60r7]
    refine condC_intro ?_ ?_ <;> intro hg1 <;> simp only [decide_eq_true_eq, decide_eq_false_iff_not, beq_iff_eq, beq_eq_false_iff_ne, bne_iff_ne, bne_eq_false_iff_eq, Bool.not_eq_true', Bool.not_eq_false', Int.not_lt, Int.not_le, ne_eq, Bool.and_eq_true, Bool.or_eq_true, Bool.or_eq_false_iff, Bool.and_eq_false_iff] at hg1 <;> simp only [go_sem, Nat.reduceAdd, Nat.reduceSub, Nat.reduceMul, Nat.reduceEqDiff, Nat.reduceLT, Nat.reduceLeDiff, Nat.reduceBEq, reduceIte, reduceCtorEq, Int.reduceToNat, Int.reduceLE, Int.reduceLT, Int.reduceBEq, Int.reduceBNe, a60, a60r0, a60r1, a60r2, a60r3, a60r4, a60r5, a60r6, a60r7]
    · have hlt : k < l.length := by omega
      have hk0 : (0 : Int) ≤ k := by omega
      have hk1 : (k : Int) < l.length := by omega
      have hget : (els l).getD k [] = [.int .i64 l[k].fr, .int .i64 l[k].to] := by rw [els_getD hlt, cel_iv]
      have hv := hi _ (List.getElem_mem hlt)
      have hbd := ivT_bd (l := l.drop (k + 1)) (fun x hx => hi x (List.mem_of_mem_drop hx))
      have hbl := ivT_bd hi
      rw [ivT_drop hlt] at hm
      generalize l[k] = v at hget hv hm
      have hw1 : IntKind.i64.wrap ((k : Int) + 1) = ((k + 1 : Nat) : Int) := by rw [wrap_i64 (by omega) (by omega)]; omega
      have hw2 : IntKind.i64.wrap (v.to - v.fr) = v.to - v.fr := wrap_i64 (by omega) (by omega)
      have hw3 : IntKind.i64.wrap (m + (v.to - v.fr)) = m + (v.to - v.fr) := wrap_i64 (by omega) (by omega)
      simp only [go_sem, Nat.reduceAdd, Nat.reduceSub, Nat.reduceMul, Nat.reduceEqDiff, Nat.reduceLT, Nat.reduceLeDiff, Nat.reduceBEq, reduceIte, reduceCtorEq, Int.reduceToNat, Int.reduceLE, Int.reduceLT, Int.reduceBEq, Int.reduceBNe, hk0, hk1, hget, hw2, hw3, hw1]
      (refine Cl.tr [] [] rfl rfl (by simp only [go_sem, Nat.reduceAdd, Nat.reduceSub, Nat.reduceMul, Nat.reduceEqDiff, Nat.reduceLT, Nat.reduceLeDiff, Nat.reduceBEq, reduceIte, reduceCtorEq, Int.reduceToNat, Int.reduceLE, Int.reduceLT, Int.reduceBEq, Int.reduceBNe] <;> rfl) ?_; simp only [go_sem, Nat.reduceAdd, Nat.reduceSub, Nat.reduceMul, Nat.reduceEqDiff, Nat.reduceLT, Nat.reduceLeDiff, Nat.reduceBEq, reduceIte, reduceCtorEq, Int.reduceToNat, Int.reduceLE, Int.reduceLT, Int.reduceBEq, Int.reduceBNe])
      refine Cl.here ⟨⟨k + 1, _, by omega, by omega, by omega, rfl, rfl⟩, ?_⟩
      simp only [go_sem, Nat.reduceAdd, Nat.reduceSub, Nat.reduceMul, Nat.reduceEqDiff, Nat.reduceLT, Nat.reduceLeDiff, Nat.reduceBEq, reduceIte, reduceCtorEq, Int.reduceToNat, Int.reduceLE, Int.reduceLT, Int.reduceBEq, Int.reduceBNe]
      omega
    · have hkk : k = l.length := by omega
      rw [hkk, List.drop_length, ivT] at hm
      exact Cl.fin rfl ⟨by rw [← hm]; simp, rfl⟩

theorem wmin_ok (l : List Iv) (hl : l.length ≤ 9223372036854775807) : AFn Try.prog 30 [.pure 2 (els l)] [] (fun v rs => v = .int .i64 (minP (l.take 1024)) ∧ rs = []) := by
  refine afn Try.func30 a30_ok (by simp [a30]) ?_
  simp only [go_sem, Nat.reduceAdd, Nat.reduceSub, Nat.reduceMul, Nat.reduceEqDiff, Nat.reduceLT, Nat.reduceLeDiff, Nat.reduceBEq, reduceIte, reduceCtorEq, Int.reduceToNat, Int.reduceLE, Int.reduceLT, Int.reduceBEq, Int.reduceBNe, a30, a30r0, a30r1, a30r2, a30r3, a30r4, a30r5, a30r6, a30r7, a30r8]
  refine ⟨by omega, by omega, ?_⟩
  have ht : List.take ((min (l.length : Int) 1024).toNat - 0) l = l.take 1024 := by
    rcases Nat.le_total l.length 1024 with h | h
    · rw [List.take_of_length_le h, List.take_of_length_le (by omega)]
    · rw [show (min (l.length : Int) 1024).toNat - 0 = 1024 from by omega]
  have hql : (l.take 1024).length ≤ 1024 := by rw [List.length_take]; omega
  generalize l.take 1024 = q at ht hql ⊢
  rw [ht]
  refine avc_loop (fun env rows => ∃ (k : Nat) (m : Int), k ≤ q.length ∧ m + minP (q.drop k) = minP q ∧ 0 ≤ m ∧ env = [(3, .int .i64 m), (10, .pure 2 (els q)), (11, .int .i64 q.length), (12, .int .i64 k)] ∧ rows = [])
    (fun env _ => match slot env 12 with | .int _ j => (q.length - j).toNat | _ => 0) ?_ ?_
  · exact Cl.here ⟨0, 0, by omega, by simp, by omega, rfl, rfl⟩
  · rintro env rows ⟨k, m, hk, hm, hm0, rfl, rfl⟩
    simp only [go_sem, Nat.reduceAdd, Nat.reduceSub, Nat.reduceMul, Nat.reduceEqDiff, Nat.reduceLT, Nat.reduceLeDiff, Nat.reduceBEq, reduceIte, reduceCtorEq, Int.reduceToNat, Int.reduceLE, Int.reduceLT, Int.reduceBEq, Int.reduceBNe, a30, a30r0, a30r1, a30r2, a30r3, a30r4, a30r5, a30r6, a30r7, a30r8]
    refine condC_intro ?_ ?_ <;> intro hg1 <;> simp only [decide_eq_true_eq, decide_eq_false_iff_not, beq_iff_eq, beq_eq_false_iff_ne, bne_iff_ne, bne_eq_false_iff_eq, Bool.not_eq_true', Bool.not_eq_false', Int.not_lt, Int.not_le, ne_eq, Bool.and_eq_true, Bool.or_eq_true, Bool.or_eq_false_iff, Bool.and_eq_false_iff] at hg1 <;> simp only [go_sem, Nat.reduceAdd, Nat.reduceSub, Nat.reduceMul, Nat.reduceEqDiff, Nat.reduceLT, Nat.reduceLeDiff, Nat.reduceBEq, reduceIte, reduceCtorEq, Int.reduceToNat, Int.reduceLE, Int.reduceLT, Int.reduceBEq, Int.reduceBNe, a30, a30r0, a30r1, a30r2, a30r3, a30r4, a30r5, a30r6, a30r7, a30r8]
    · have hlt : k < q.length := by omega
      have hk0 : (0 : Int) ≤ k := by omega
      have hk1 : (k : Int) < q.length := by omega
      have hget : (els q).getD k [] = [.int .i64 q[k].fr, .int .i64 q[k].to] := by rw [els_getD hlt, cel_iv]
      have hbd := minP_bd (l := q.drop (k + 1))
      have hbl := minP_bd (l := q)
      rw [minP_drop hlt] at hm
      generalize q[k] = v at hget hm
      have hw1 : IntKind.i64.wrap ((k : Int) + 1) = ((k + 1 : Nat) : Int) := by rw [wrap_i64 (by omega) (by omega)]; omega
      simp only [go_sem, Nat.reduceAdd, Nat.reduceSub, Nat.reduceMul, Nat.reduceEqDiff, Nat.reduceLT, Nat.reduceLeDiff, Nat.reduceBEq, reduceIte, reduceCtorEq, Int.reduceToNat, Int.reduceLE, Int.reduceLT, Int.reduceBEq, Int.reduceBNe, hk0, hk1, hget]
      refine callC_det (wvalid_ok v.fr v.to) rfl rfl ?_
      simp only [go_sem, Nat.reduceAdd, Nat.reduceSub, Nat.reduceMul, Nat.reduceEqDiff, Nat.reduceLT, Nat.reduceLeDiff, Nat.reduceBEq, reduceIte, reduceCtorEq, Int.reduceToNat, Int.reduceLE, Int.reduceLT, Int.reduceBEq, Int.reduceBNe]
      refine condC_intro ?_ ?_ <;> intro hg2 <;> (try simp only [decide_eq_true_eq, decide_eq_false_iff_not, beq_iff_eq, beq_eq_false_iff_ne, bne_iff_ne, bne_eq_false_iff_eq, Bool.not_eq_true', Bool.not_eq_false', Int.not_lt, Int.not_le, ne_eq, Bool.and_eq_true, Bool.or_eq_true, Bool.or_eq_false_iff, Bool.and_eq_false_iff] at hg2) <;> simp only [go_sem, Nat.reduceAdd, Nat.reduceSub, Nat.reduceMul, Nat.reduceEqDiff, Nat.reduceLT, Nat.reduceLeDiff, Nat.reduceBEq, reduceIte, reduceCtorEq, Int.reduceToNat, Int.reduceLE, Int.reduceLT, Int.reduceBEq, Int.reduceBNe, a30, a30r0, a30r1, a30r2, a30r3, a30r4, a30r5, a30r6, a30r7, a30r8, hk0, hk1, hget, hw1]
      · rw [show ivIn v 0 120968640 = true from hg2, if_pos rfl] at hm
        simp only [ivIn, decide_eq_true_eq] at hg2
        have hw2 : IntKind.i64.wrap (v.to - v.fr) = v.to - v.fr := wrap_i64 (by omega) (by omega)
        have hw3 : IntKind.i64.wrap (m + (v.to - v.fr)) = m + (v.to - v.fr) := wrap_i64 (by omega) (by omega)
        rw [hw2, hw3]
        (refine Cl.tr [] [] rfl rfl (by simp only [go_sem, Nat.reduceAdd, Nat.reduceSub, Nat.reduceMul, Nat.reduceEqDiff, Nat.reduceLT, Nat.reduceLeDiff, Nat.reduceBEq, reduceIte, reduceCtorEq, Int.reduceToNat, Int.reduceLE, Int.reduceLT, Int.reduceBEq, Int.reduceBNe] <;> rfl) ?_; simp only [go_sem, Nat.reduceAdd, Nat.reduceSub, Nat.reduceMul, Nat.reduceEqDiff, Nat.reduceLT, Nat.reduceLeDiff, Nat.reduceBEq, reduceIte, reduceCtorEq, Int.reduceToNat, Int.reduceLE, Int.reduceLT, Int.reduceBEq, Int.reduceBNe])
        refine Cl.here ⟨⟨k + 1, _, by omega, by omega, by omega, rfl, rfl⟩, ?_⟩
        simp only [go_sem, Nat.reduceAdd, Nat.reduceSub, Nat.reduceMul, Nat.reduceEqDiff, Nat.reduceLT, Nat.reduceLeDiff, Nat.reduceBEq, reduceIte, reduceCtorEq, Int.reduceToNat, Int.reduceLE, Int.reduceLT, Int.reduceBEq, Int.reduceBNe]
        omega
      · rw [show ivIn v 0 120968640 = false from hg2, if_neg (by simp)] at hm
        (refine Cl.tr [] [] rfl rfl (by simp only [go_sem, Nat.reduceAdd, Nat.reduceSub, Nat.reduceMul, Nat.reduceEqDiff, Nat.reduceLT, Nat.reduceLeDiff, Nat.reduceBEq, reduceIte, reduceCtorEq, Int.reduceToNat, Int.reduceLE, Int.reduceLT, Int.reduceBEq, Int.reduceBNe] <;> rfl) ?_; simp only [go_sem, Nat.reduceAdd, Nat.reduceSub, Nat.reduceMul, Nat.reduceEqDiff, Nat.reduceLT, Nat.reduceLeDiff, Nat.reduceBEq, reduceIte, reduceCtorEq, Int.reduceToNat, Int.reduceLE, Int.reduceLT, Int.reduceBEq, Int.reduceBNe])
        refine Cl.here ⟨⟨k + 1, _, by omega, by omega, by omega, rfl, rfl⟩, ?_⟩
        simp only [go_sem, Nat.reduceAdd, Nat.reduceSub, Nat.reduceMul, Nat.reduceEqDiff, Nat.reduceLT, Nat.reduceLeDiff, Nat.reduceBEq, reduceIte, reduceCtorEq, Int.reduceToNat, Int.reduceLE, Int.reduceLT, Int.reduceBEq, Int.reduceBNe]
        omega
    · have hkk : k = q.length := by omega
      rw [hkk, List.drop_length, minP] at hm
      exact Cl.fin rfl ⟨by rw [← hm]; simp, rfl⟩

theorem gmin_ok (l : List Iv) (hl : l.length ≤ 1000000000) : AFn Try.prog 31 [.pure 2 (els l)] [] (fun v rs => v = .int .i64 (minP l) ∧ rs = []) := by
  refine afn Try.func31 a31_ok (by simp [a31]) ?_
  simp only [go_sem, Nat.reduceAdd, Nat.reduceSub, Nat.reduceMul, Nat.reduceEqDiff, Nat.reduceLT, Nat.reduceLeDiff, Nat.reduceBEq, reduceIte, reduceCtorEq, Int.reduceToNat, Int.reduceLE, Int.reduceLT, Int.reduceBEq, Int.reduceBNe, a31, a31r0, a31r1, a31r2, a31r3, a31r4, a31r5, a31r6, a31r7]
  generalize l = q at hl ⊢
  refine avc_loop (fun env rows => ∃ (k : Nat) (m : Int), k ≤ q.length ∧ m + minP (q.drop k) = minP q ∧ 0 ≤ m ∧ env = [(0, .pure 2 (els q)), (3, .int .i64 m), (4, .int .i64 k)] ∧ rows = [])
    (fun env _ => match slot env 4 with | .int _ j => (q.length - j).toNat | _ => 0) ?_ ?_
  · exact Cl.here ⟨0, 0, by omega, by simp, by omega, rfl, rfl⟩
  · rintro env rows ⟨k, m, hk, hm, hm0, rfl, rfl⟩
    simp only [go_sem, Nat.reduceAdd, Nat.reduceSub, Nat.reduceMul, Nat.reduceEqDiff, Nat.reduceLT, Nat.reduceLeDiff, Nat.reduceBEq, reduceIte, reduceCtorEq, Int.reduceToNat, Int.reduceLE, Int.reduceLT, Int.reduceBEq, Int.reduceBNe, a31, a31r0, a31r1, a31r2, a31r3, a31r4, a31r5, a31r6, a31r7]
    refine condC_intro ?_ ?_ <;> intro hg1 <;> simp only [decide_eq_true_eq, decide_eq_false_iff_not, beq_iff_eq, beq_eq_false_iff_ne, bne_iff_ne, bne_eq_false_iff_eq, Bool.not_eq_true', Bool.not_eq_false', Int.not_lt, Int.not_le, ne_eq, Bool.and_eq_true, Bool.or_eq_true, Bool.or_eq_false_iff, Bool.and_eq_false_iff] at hg1 <;> simp only [go_sem, Nat.reduceAdd, Nat.reduceSub, Nat.reduceMul, Nat.reduceEqDiff, Nat.reduceLT, Nat.reduceLeDiff, Nat.reduceBEq, reduceIte, reduceCtorEq, Int.reduceToNat, Int.reduceLE, Int.reduceLT, Int.reduceBEq, Int.reduceBNe, a31, a31r0, a31r1, a31r2, a31r3, a31r4, a31r5, a31r6, a31r7]
    · have hlt : k < q.length := by omega
      have hk0 : (0 : Int) ≤ k := by omega
      have hk1 : (k : Int) < q.length := by omega
      have hget : (els q).getD k [] = [.int .i64 q[k].fr, .int .i64 q[k].to] := by rw [els_getD hlt, cel_iv]
      have hbd := minP_bd (l := q.drop (k + 1))
      have hbl := minP_bd (l := q)
      rw [minP_drop hlt] at hm
      generalize q[k] = v at hget hm
      have hw1 : IntKind.i64.wrap ((k : Int) + 1) = ((k + 1 : Nat) : Int) := by rw [wrap_i64 (by omega) (by omega)]; omega
      simp only [go_sem, Nat.reduceAdd, Nat.reduceSub, Nat.reduceMul, Nat.reduceEqDiff, Nat.reduceLT, Nat.reduceLeDiff, Nat.reduceBEq, reduceIte, reduceCtorEq, Int.reduceToNat, Int.reduceLE, Int.reduceLT, Int.reduceBEq, Int.reduceBNe, hk0, hk1, hget]
      refine callC_det (isInt_ok v.fr v.to) rfl rfl ?_
      simp only [go_sem, Nat.reduceAdd, Nat.reduceSub, Nat.reduceMul, Nat.reduceEqDiff, Nat.reduceLT, Nat.reduceLeDiff, Nat.reduceBEq, reduceIte, reduceCtorEq, Int.reduceToNat, Int.reduceLE, Int.reduceLT, Int.reduceBEq, Int.reduceBNe]
      refine condC_intro ?_ ?_ <;> intro hg2 <;> (try simp only [decide_eq_true_eq, decide_eq_false_iff_not, beq_iff_eq, beq_eq_false_iff_ne, bne_iff_ne, bne_eq_false_iff_eq, Bool.not_eq_true', Bool.not_eq_false', Int.not_lt, Int.not_le, ne_eq, Bool.and_eq_true, Bool.or_eq_true, Bool.or_eq_false_iff, Bool.and_eq_false_iff] at hg2) <;> simp only [go_sem, Nat.reduceAdd, Nat.reduceSub, Nat.reduceMul, Nat.reduceEqDiff, Nat.reduceLT, Nat.reduceLeDiff, Nat.reduceBEq, reduceIte, reduceCtorEq, Int.reduceToNat, Int.reduceLE, Int.reduceLT, Int.reduceBEq, Int.reduceBNe, a31, a31r0, a31r1, a31r2, a31r3, a31r4, a31r5, a31r6, a31r7, hk0, hk1, hget, hw1]
      · rw [show ivIn v 0 120968640 = true from hg2, if_pos rfl] at hm
        simp only [ivIn, decide_eq_true_eq] at hg2
        have hw2 : IntKind.i64.wrap (v.to - v.fr) = v.to - v.fr := wrap_i64 (by omega) (by omega)
        have hw3 : IntKind.i64.wrap (m + (v.to - v.fr)) = m + (v.to - v.fr) := wrap_i64 (by omega) (by omega)
        rw [hw2, hw3]
        refine Cl.here ⟨⟨k + 1, _, by omega, by omega, by omega, rfl, rfl⟩, ?_⟩
        simp only [go_sem, Nat.reduceAdd, Nat.reduceSub, Nat.reduceMul, Nat.reduceEqDiff, Nat.reduceLT, Nat.reduceLeDiff, Nat.reduceBEq, reduceIte, reduceCtorEq, Int.reduceToNat, Int.reduceLE, Int.reduceLT, Int.reduceBEq, Int.reduceBNe]
        omega
      · rw [show ivIn v 0 120968640 = false from hg2, if_neg (by simp)] at hm
        refine Cl.here ⟨⟨k + 1, _, by omega, by omega, by omega, rfl, rfl⟩, ?_⟩
        simp only [go_sem, Nat.reduceAdd, Nat.reduceSub, Nat.reduceMul, Nat.reduceEqDiff, Nat.reduceLT, Nat.reduceLeDiff, Nat.reduceBEq, reduceIte, reduceCtorEq, Int.reduceToNat, Int.reduceLE, Int.reduceLT, Int.reduceBEq, Int.reduceBNe]
        omega
    · have hkk : k = q.length := by omega
      rw [hkk, List.drop_length, minP] at hm
      exact Cl.fin rfl ⟨by rw [← hm]; simp, rfl⟩

theorem rmin_ok (l : List Iv) (hl : l.length ≤ 9223372036854775807) : AFn Try.prog 32 [.pure 2 (els l)] [] (fun v rs => v = .int .i64 (minP (l.take 1024)) ∧ rs = []) := by
  refine afn Try.func32 a32_ok (by simp [a32]) ?_
  simp only [go_sem, Nat.reduceAdd, Nat.reduceSub, Nat.reduceMul, Nat.reduceEqDiff, Nat.reduceLT, Nat.reduceLeDiff, Nat.reduceBEq, reduceIte, reduceCtorEq, Int.reduceToNat, Int.reduceLE, Int.reduceLT, Int.reduceBEq, Int.reduceBNe, a32, a32r0, a32r1, a32r2, a32r3, a32r4, a32r5, a32r6, a32r7]
  refine avc_loop (fun env rows => ∃ (k : Nat) (m : Int), k ≤ l.length ∧ k ≤ 1024 ∧ m + minP ((l.take 1024).drop k) = minP (l.take 1024) ∧ 0 ≤ m ∧ env = [(0, .pure 2 (els l)), (3, .int .i64 m), (4, .int .i64 k)] ∧ rows = [])
    (fun env _ => match slot env 4 with | .int _ j => (l.length - j).toNat | _ => 0) ?_ ?_
  · exact Cl.here ⟨0, 0, by omega, by omega, by simp, by omega, rfl, rfl⟩
  · rintro env rows ⟨k, m, hk, hkk, hm, hm0, rfl, rfl⟩
    have hend : (l.length ≤ k ∨ 1024 ≤ k) → m = minP (l.take 1024) := by
      intro h
      rw [List.drop_of_length_le (by rw [List.length_take]; omega), minP] at hm
      omega
    simp only [go_sem, Nat.reduceAdd, Nat.reduceSub, Nat.reduceMul, Nat.reduceEqDiff, Nat.reduceLT, Nat.reduceLeDiff, Nat.reduceBEq, reduceIte, reduceCtorEq, Int.reduceToNat, Int.reduceLE, Int.reduceLT, Int.reduceBEq, Int.reduceBNe, a32, a32r0, a32r1, a32r2, a32r3, a32r4, a32r5, a32r6, a32r7]
    repeat' (first | (refine grdC_intro ?_ ?_ <;> intro hg <;> (have hp := hg; try simp only [decide_eq_true_eq, decide_eq_false_iff_not, beq_iff_eq, beq_eq_false_iff_ne, bne_iff_ne, bne_eq_false_iff_eq, Bool.not_eq_true', Bool.not_eq_false', Int.not_lt, Int.not_le, ne_eq, Bool.and_eq_true, Bool.or_eq_true, Bool.or_eq_false_iff, Bool.and_eq_false_iff] at hp) <;> (first | omega | (simp only [go_sem, Nat.reduceAdd, Nat.reduceSub, Nat.reduceMul, Nat.reduceEqDiff, Nat.reduceLT, Nat.reduceLeDiff, Nat.reduceBEq, reduceIte, reduceCtorEq, Int.reduceToNat, Int.reduceLE, Int.reduceLT, Int.reduceBEq, Int.reduceBNe, hg, a32, a32r0, a32r1, a32r2, a32r3, a32r4, a32r5, a32r6, a32r7]; clear hg))) | (refine grdD_intro ?_ ?_ <;> intro hg <;> (have hp := hg; try simp only [decide_eq_true_eq, decide_eq_false_iff_not, beq_iff_eq, beq_eq_false_iff_ne, bne_iff_ne, bne_eq_false_iff_eq, Bool.not_eq_true', Bool.not_eq_false', Int.not_lt, Int.not_le, ne_eq, Bool.and_eq_true, Bool.or_eq_true, Bool.or_eq_false_iff, Bool.and_eq_false_iff] at hp) <;> (first | omega | (simp only [go_sem, Nat.reduceAdd, Nat.reduceSub, Nat.reduceMul, Nat.reduceEqDiff, Nat.reduceLT, Nat.reduceLeDiff, Nat.reduceBEq, reduceIte, reduceCtorEq, Int.reduceToNat, Int.reduceLE, Int.reduceLT, Int.reduceBEq, Int.reduceBNe, hg, a32, a32r0, a32r1, a32r2, a32r3, a32r4, a32r5, a32r6, a32r7]; clear hg))) | (refine condC_intro ?_ ?_ <;> intro hg <;> (have hp := hg; try simp only [decide_eq_true_eq, decide_eq_false_iff_not, beq_iff_eq, beq_eq_false_iff_ne, bne_iff_ne, bne_eq_false_iff_eq, Bool.not_eq_true', Bool.not_eq_false', Int.not_lt, Int.not_le, ne_eq, Bool.and_eq_true, Bool.or_eq_true, Bool.or_eq_false_iff, Bool.and_eq_false_iff] at hp) <;> (first | omega | (simp only [go_sem, Nat.reduceAdd, Nat.reduceSub, Nat.reduceMul, Nat.reduceEqDiff, Nat.reduceLT, Nat.reduceLeDiff, Nat.reduceBEq, reduceIte, reduceCtorEq, Int.reduceToNat, Int.reduceLE, Int.reduceLT, Int.reduceBEq, Int.reduceBNe, hg, a32, a32r0, a32r1, a32r2, a32r3, a32r4, a32r5, a32r6, a32r7]; clear hg))) | (refine condW_intro ?_ ?_ <;> intro hg <;> (have hp := hg; try simp only [decide_eq_true_eq, decide_eq_false_iff_not, beq_iff_eq, beq_eq_false_iff_ne, bne_iff_ne, bne_eq_false_iff_eq, Bool.not_eq_true', Bool.not_eq_false', Int.not_lt, Int.not_le, ne_eq, Bool.and_eq_true, Bool.or_eq_true, Bool.or_eq_false_iff, Bool.and_eq_false_iff] at hp) <;> (first | omega | (simp only [go_sem, Nat.reduceAdd, Nat.reduceSub, Nat.reduceMul, Nat.reduceEqDiff, Nat.reduceLT, Nat.reduceLeDiff, Nat.reduceBEq, reduceIte, reduceCtorEq, Int.reduceToNat, Int.reduceLE, Int.reduceLT, Int.reduceBEq, Int.reduceBNe, hg, a32, a32r0, a32r1, a32r2, a32r3, a32r4, a32r5, a32r6, a32r7]; clear hg))))
    · rename_i hp1
      have hlt : k < l.length := by omega
      have hk0 : (0 : Int) ≤ k := by omega
      have hk1 : (k : Int) < l.length := by omega
      have hget : (els l).getD k [] = [.int .i64 l[k].fr, .int .i64 l[k].to] := by rw [els_getD hlt, cel_iv]
      have hbd := minP_bd (l := (l.take 1024).drop (k + 1))
      have hbl := minP_bd (l := l.take 1024)
      have hql : (l.take 1024).length ≤ 1024 := by rw [List.length_take]; omega
      have hq : k < (l.take 1024).length := by rw [List.length_take]; omega
      rw [minP_drop hq, List.getElem_take] at hm
      generalize l[k] = v at hget hm
      have hw1 : IntKind.i64.wrap ((k : Int) + 1) = ((k + 1 : Nat) : Int) := by rw [wrap_i64 (by omega) (by omega)]; omega
      simp only [go_sem, Nat.reduceAdd, Nat.reduceSub, Nat.reduceMul, Nat.reduceEqDiff, Nat.reduceLT, Nat.reduceLeDiff, Nat.reduceBEq, reduceIte, reduceCtorEq, Int.reduceToNat, Int.reduceLE, Int.reduceLT, Int.reduceBEq, Int.reduceBNe, hk0, hk1, hget]
      refine callC_det (isInt_ok v.fr v.to) rfl rfl ?_
      simp only [go_sem, Nat.reduceAdd, Nat.reduceSub, Nat.reduceMul, Nat.reduceEqDiff, Nat.reduceLT, Nat.reduceLeDiff, Nat.reduceBEq, reduceIte, reduceCtorEq, Int.reduceToNat, Int.reduceLE, Int.reduceLT, Int.reduceBEq, Int.reduceBNe]
      refine condC_intro ?_ ?_ <;> intro hg2 <;> (try simp only [decide_eq_true_eq, decide_eq_false_iff_not, beq_iff_eq, beq_eq_false_iff_ne, bne_iff_ne, bne_eq_false_iff_eq, Bool.not_eq_true', Bool.not_eq_false', Int.not_lt, Int.not_le, ne_eq, Bool.and_eq_true, Bool.or_eq_true, Bool.or_eq_false_iff, Bool.and_eq_false_iff] at hg2) <;> simp only [go_sem, Nat.reduceAdd, Nat.reduceSub, Nat.reduceMul, Nat.reduceEqDiff, Nat.reduceLT, Nat.reduceLeDiff, Nat.reduceBEq, reduceIte, reduceCtorEq, Int.reduceToNat, Int.reduceLE, Int.reduceLT, Int.reduceBEq, Int.reduceBNe, a32, a32r0, a32r1, a32r2, a32r3, a32r4, a32r5, a32r6, a32r7, hk0, hk1, hget, hw1]
      · rw [show ivIn v 0 120968640 = true from hg2, if_pos rfl] at hm
        simp only [ivIn, decide_eq_true_eq] at hg2
        have hw2 : IntKind.i64.wrap (v.to - v.fr) = v.to - v.fr := wrap_i64 (by omega) (by omega)
        have hw3 : IntKind.i64.wrap (m + (v.to - v.fr)) = m + (v.to - v.fr) := wrap_i64 (by omega) (by omega)
        rw [hw2, hw3]
        refine Cl.here ⟨⟨k + 1, _, by omega, by omega, by omega, by omega, rfl, rfl⟩, ?_⟩
        simp only [go_sem, Nat.reduceAdd, Nat.reduceSub, Nat.reduceMul, Nat.reduceEqDiff, Nat.reduceLT, Nat.reduceLeDiff, Nat.reduceBEq, reduceIte, reduceCtorEq, Int.reduceToNat, Int.reduceLE, Int.reduceLT, Int.reduceBEq, Int.reduceBNe]
        omega
      · rw [show ivIn v 0 120968640 = false from hg2, if_neg (by simp)] at hm
        refine Cl.here ⟨⟨k + 1, _, by omega, by omega, by omega, by omega, rfl, rfl⟩, ?_⟩
        simp only [go_sem, Nat.reduceAdd, Nat.reduceSub, Nat.reduceMul, Nat.reduceEqDiff, Nat.reduceLT, Nat.reduceLeDiff, Nat.reduceBEq, reduceIte, reduceCtorEq, Int.reduceToNat, Int.reduceLE, Int.reduceLT, Int.reduceBEq, Int.reduceBNe]
        omega
    · exact Cl.fin rfl ⟨by rw [hend (by omega)], rfl⟩
    · exact Cl.fin rfl ⟨by rw [hend (by omega)], rfl⟩

theorem join_ok (l : List Iv) (f t : Int) (hl : l.length ≤ 1000000000) : AFn Try.prog 78 [.own 0 l.length 0 l.length, .agg [.int .i64 f, .int .i64 t]] [.live 26 2 (els l)]
    (fun v rs => v = .own 0 (joinP l ⟨f, t⟩).length 0 (joinP l ⟨f, t⟩).length ∧ rs = [.live 26 2 (els (joinP l ⟨f, t⟩))]) := by
  refine afn Try.func78 a78_ok (by simp [a78]) ?_
  simp only [go_sem, Nat.reduceAdd, Nat.reduceSub, Nat.reduceMul, Nat.reduceEqDiff, Nat.reduceLT, Nat.reduceLeDiff, Nat.reduceBEq, reduceIte, reduceCtorEq, Int.reduceToNat, Int.reduceLE, Int.reduceLT, Int.reduceBEq, Int.reduceBNe, a78, a78r0, a78r1, a78r2, a78r3, a78r4, a78r5, a78r6, a78r7]
  refine condC_intro ?_ ?_ <;> intro hg1 <;> simp only [decide_eq_true_eq, decide_eq_false_iff_not, beq_iff_eq, beq_eq_false_iff_ne, bne_iff_ne, bne_eq_false_iff_eq, Bool.not_eq_true', Bool.not_eq_false', Int.not_lt, Int.not_le, ne_eq, Bool.and_eq_true, Bool.or_eq_true, Bool.or_eq_false_iff, Bool.and_eq_false_iff] at hg1 <;> simp only [go_sem, Nat.reduceAdd, Nat.reduceSub, Nat.reduceMul, Nat.reduceEqDiff, Nat.reduceLT, Nat.reduceLeDiff, Nat.reduceBEq, reduceIte, reduceCtorEq, Int.reduceToNat, Int.reduceLE, Int.reduceLT, Int.reduceBEq, Int.reduceBNe, a78, a78r0, a78r1, a78r2, a78r3, a78r4, a78r5, a78r6, a78r7]
  · (refine Cl.tr [some 0] [] rfl rfl (by simp only [go_sem, Nat.reduceAdd, Nat.reduceSub, Nat.reduceMul, Nat.reduceEqDiff, Nat.reduceLT, Nat.reduceLeDiff, Nat.reduceBEq, reduceIte, reduceCtorEq, Int.reduceToNat, Int.reduceLE, Int.reduceLT, Int.reduceBEq, Int.reduceBNe] <;> rfl) ?_; simp only [go_sem, Nat.reduceAdd, Nat.reduceSub, Nat.reduceMul, Nat.reduceEqDiff, Nat.reduceLT, Nat.reduceLeDiff, Nat.reduceBEq, reduceIte, reduceCtorEq, Int.reduceToNat, Int.reduceLE, Int.reduceLT, Int.reduceBEq, Int.reduceBNe])
    exact Cl.here ⟨by rw [joinP_none hg1]; rfl, by rw [joinP_none hg1]⟩
  rcases List.eq_nil_or_concat l with rfl | ⟨l', u, rfl⟩
  · simp only [go_sem, Nat.reduceAdd, Nat.reduceSub, Nat.reduceMul, Nat.reduceEqDiff, Nat.reduceLT, Nat.reduceLeDiff, Nat.reduceBEq, reduceIte, reduceCtorEq, Int.reduceToNat, Int.reduceLE, Int.reduceLT, Int.reduceBEq, Int.reduceBNe, List.length_nil]
    (refine Cl.tr [some 0] [] rfl rfl (by simp only [go_sem, Nat.reduceAdd, Nat.reduceSub, Nat.reduceMul, Nat.reduceEqDiff, Nat.reduceLT, Nat.reduceLeDiff, Nat.reduceBEq, reduceIte, reduceCtorEq, Int.reduceToNat, Int.reduceLE, Int.reduceLT, Int.reduceBEq, Int.reduceBNe] <;> rfl) ?_; simp only [go_sem, Nat.reduceAdd, Nat.reduceSub, Nat.reduceMul, Nat.reduceEqDiff, Nat.reduceLT, Nat.reduceLeDiff, Nat.reduceBEq, reduceIte, reduceCtorEq, Int.reduceToNat, Int.reduceLE, Int.reduceLT, Int.reduceBEq, Int.reduceBNe])
    exact Cl.here ⟨by rw [joinP_nil hg1]; rfl, by rw [joinP_nil hg1]⟩
  · rw [List.concat_eq_append] at *
    have hlen : (l' ++ [u]).length = l'.length + 1 := by simp
    rw [hlen] at hl
    have hd : decide ((0 : Int) < ((l'.length + 1 : Nat) : Int)) = true := decide_eq_true (by omega)
    have hwm : IntKind.i64.wrap (((l'.length + 1 : Nat) : Int) - 1) = (l'.length : Int) := by rw [wrap_i64 (by omega) (by omega)]; omega
    have hj0 : (0 : Int) ≤ l'.length := by omega
    have hj1 : (l'.length : Int) < ((l'.length + 1 : Nat) : Int) := by omega
    have hget : (els (l' ++ [u])).getD l'.length [] = [.int .i64 u.fr, .int .i64 u.to] := by rw [els_getD (by omega), cel_iv]; simp
    rw [hlen]
    simp only [go_sem, Nat.reduceAdd, Nat.reduceSub, Nat.reduceMul, Nat.reduceEqDiff, Nat.reduceLT, Nat.reduceLeDiff, Nat.reduceBEq, reduceIte, reduceCtorEq, Int.reduceToNat, Int.reduceLE, Int.reduceLT, Int.reduceBEq, Int.reduceBNe, hlen, hd, hwm, hj0, hj1, hget]
    repeat' (first | (refine grdC_intro ?_ ?_ <;> intro hg <;> (have hp := hg; try simp only [decide_eq_true_eq, decide_eq_false_iff_not, beq_iff_eq, beq_eq_false_iff_ne, bne_iff_ne, bne_eq_false_iff_eq, Bool.not_eq_true', Bool.not_eq_false', Int.not_lt, Int.not_le, ne_eq, Bool.and_eq_true, Bool.or_eq_true, Bool.or_eq_false_iff, Bool.and_eq_false_iff] at hp) <;> (first | omega | (simp only [go_sem, Nat.reduceAdd, Nat.reduceSub, Nat.reduceMul, Nat.reduceEqDiff, Nat.reduceLT, Nat.reduceLeDiff, Nat.reduceBEq, reduceIte, reduceCtorEq, Int.reduceToNat, Int.reduceLE, Int.reduceLT, Int.reduceBEq, Int.reduceBNe, hg, a78, a78r0, a78r1, a78r2, a78r3, a78r4, a78r5, a78r6, a78r7, hlen, hd, hwm, hj0, hj1, hget]; clear hg))) | (refine grdD_intro ?_ ?_ <;> intro hg <;> (have hp := hg; try simp only [decide_eq_true_eq, decide_eq_false_iff_not, beq_iff_eq, beq_eq_false_iff_ne, bne_iff_ne, bne_eq_false_iff_eq, Bool.not_eq_true', Bool.not_eq_false', Int.not_lt, Int.not_le, ne_eq, Bool.and_eq_true, Bool.or_eq_true, Bool.or_eq_false_iff, Bool.and_eq_false_iff] at hp) <;> (first | omega | (simp only [go_sem, Nat.reduceAdd, Nat.reduceSub, Nat.reduceMul, Nat.reduceEqDiff, Nat.reduceLT, Nat.reduceLeDiff, Nat.reduceBEq, reduceIte, reduceCtorEq, Int.reduceToNat, Int.reduceLE, Int.reduceLT, Int.reduceBEq, Int.reduceBNe, hg, a78, a78r0, a78r1, a78r2, a78r3, a78r4, a78r5, a78r6, a78r7, hlen, hd, hwm, hj0, hj1, hget]; clear hg))) | (refine condC_intro ?_ ?_ <;> intro hg <;> (have hp := hg; try simp only [decide_eq_true_eq, decide_eq_false_iff_not, beq_iff_eq, beq_eq_false_iff_ne, bne_iff_ne, bne_eq_false_iff_eq, Bool.not_eq_true', Bool.not_eq_false', Int.not_lt, Int.not_le, ne_eq, Bool.and_eq_true, Bool.or_eq_true, Bool.or_eq_false_iff, Bool.and_eq_false_iff] at hp) <;> (first | omega | (simp only [go_sem, Nat.reduceAdd, Nat.reduceSub, Nat.reduceMul, Nat.reduceEqDiff, Nat.reduceLT, Nat.reduceLeDiff, Nat.reduceBEq, reduceIte, reduceCtorEq, Int.reduceToNat, Int.reduceLE, Int.reduceLT, Int.reduceBEq, Int.reduceBNe, hg, a78, a78r0, a78r1, a78r2, a78r3, a78r4, a78r5, a78r6, a78r7, hlen, hd, hwm, hj0, hj1, hget]; clear hg))) | (refine condW_intro ?_ ?_ <;> intro hg <;> (have hp := hg; try simp only [decide_eq_true_eq, decide_eq_false_iff_not, beq_iff_eq, beq_eq_false_iff_ne, bne_iff_ne, bne_eq_false_iff_eq, Bool.not_eq_true', Bool.not_eq_false', Int.not_lt, Int.not_le, ne_eq, Bool.and_eq_true, Bool.or_eq_true, Bool.or_eq_false_iff, Bool.and_eq_false_iff] at hp) <;> (first | omega | (simp only [go_sem, Nat.reduceAdd, Nat.reduceSub, Nat.reduceMul, Nat.reduceEqDiff, Nat.reduceLT, Nat.reduceLeDiff, Nat.reduceBEq, reduceIte, reduceCtorEq, Int.reduceToNat, Int.reduceLE, Int.reduceLT, Int.reduceBEq, Int.reduceBNe, hg, a78, a78r0, a78r1, a78r2, a78r3, a78r4, a78r5, a78r6, a78r7, hlen, hd, hwm, hj0, hj1, hget]; clear hg))))
    · have hset : (els (l' ++ [u])).set l'.length [AVal.int IntKind.i64 u.fr, AVal.int IntKind.i64 t] = els (l' ++ [⟨u.fr, t⟩]) := by
        rw [← cel_iv ⟨u.fr, t⟩, els_set]; simp
      rw [hset]
      (refine Cl.tr [some 0] [] rfl rfl (by simp only [go_sem, Nat.reduceAdd, Nat.reduceSub, Nat.reduceMul, Nat.reduceEqDiff, Nat.reduceLT, Nat.reduceLeDiff, Nat.reduceBEq, reduceIte, reduceCtorEq, Int.reduceToNat, Int.reduceLE, Int.reduceLT, Int.reduceBEq, Int.reduceBNe] <;> rfl) ?_; simp only [go_sem, Nat.reduceAdd, Nat.reduceSub, Nat.reduceMul, Nat.reduceEqDiff, Nat.reduceLT, Nat.reduceLeDiff, Nat.reduceBEq, reduceIte, reduceCtorEq, Int.reduceToNat, Int.reduceLE, Int.reduceLT, Int.reduceBEq, Int.reduceBNe])
      have hj : joinP (l' ++ [u]) ⟨f, t⟩ = l' ++ [⟨u.fr, t⟩] := by rw [joinP_snoc hg1, if_pos hp]
      exact Cl.here ⟨by rw [hj]; simp [slot], by rw [hj]⟩
    · refine ⟨by omega, ?_⟩
      (refine Cl.tr [some 0] [] rfl rfl (by simp only [go_sem, Nat.reduceAdd, Nat.reduceSub, Nat.reduceMul, Nat.reduceEqDiff, Nat.reduceLT, Nat.reduceLeDiff, Nat.reduceBEq, reduceIte, reduceCtorEq, Int.reduceToNat, Int.reduceLE, Int.reduceLT, Int.reduceBEq, Int.reduceBNe] <;> rfl) ?_; simp only [go_sem, Nat.reduceAdd, Nat.reduceSub, Nat.reduceMul, Nat.reduceEqDiff, Nat.reduceLT, Nat.reduceLeDiff, Nat.reduceBEq, reduceIte, reduceCtorEq, Int.reduceToNat, Int.reduceLE, Int.reduceLT, Int.reduceBEq, Int.reduceBNe])
      have hj : joinP (l' ++ [u]) ⟨f, t⟩ = l' ++ [u] ++ [⟨f, t⟩] := by rw [joinP_snoc hg1, if_neg hp]
      exact Cl.here ⟨by rw [hj]; simp [slot], by rw [hj]⟩

theorem grid_ok (r : Rul) (hr : r.modeOk) (t : Int) (e : Bool) (h0 : 0 ≤ t) (h1 : t ≤ 120968640) : AFn Try.prog 75 [.agg (Cel.c r), .int .i64 t, .bool e] [] (fun v rs => v = .int .i64 (gridP r t e) ∧ rs = []) := by
  refine afn Try.func75 a75_ok (by simp [a75]) ?_
  simp only [go_sem, Nat.reduceAdd, Nat.reduceSub, Nat.reduceMul, Nat.reduceEqDiff, Nat.reduceLT, Nat.reduceLeDiff, Nat.reduceBEq, reduceIte, reduceCtorEq, Int.reduceToNat, Int.reduceLE, Int.reduceLT, Int.reduceBEq, Int.reduceBNe, a75, a75r0, a75r1, a75r2, a75r3, a75r4, a75r5, a75r6, a75r7, a75r8, a75r9, a75r10, a75r11, a75r12, a75r13, a75r14, a75r15, a75r16, cel_rul]
  refine condC_intro ?_ ?_ <;> intro hg1 <;> simp only [decide_eq_true_eq, decide_eq_false_iff_not, beq_iff_eq, beq_eq_false_iff_ne, bne_iff_ne, bne_eq_false_iff_eq, Bool.not_eq_true', Bool.not_eq_false', Int.not_lt, Int.not_le, ne_eq, Bool.and_eq_true, Bool.or_eq_true, Bool.or_eq_false_iff, Bool.and_eq_false_iff] at hg1 <;> simp only [go_sem, Nat.reduceAdd, Nat.reduceSub, Nat.reduceMul, Nat.reduceEqDiff, Nat.reduceLT, Nat.reduceLeDiff, Nat.reduceBEq, reduceIte, reduceCtorEq, Int.reduceToNat, Int.reduceLE, Int.reduceLT, Int.reduceBEq, Int.reduceBNe, a75, a75r0, a75r1, a75r2, a75r3, a75r4, a75r5, a75r6, a75r7, a75r8, a75r9, a75r10, a75r11, a75r12, a75r13, a75r14, a75r15, a75r16]
  · exact Cl.fin rfl ⟨by rw [gridP, if_pos hg1], rfl⟩
  have hm : 1 ≤ r.mode ∧ r.mode ≤ 3 ∧ 1 ≤ r.grid ∧ r.grid ≤ 60 := by unfold Rul.modeOk at hr; omega
  refine ⟨by omega, ?_⟩
  have hq0 : 0 ≤ t / r.grid := Int.ediv_nonneg h0 (by omega)
  have hq1 : t / r.grid ≤ t := Int.ediv_le_self _ h0
  have hl0 : 0 ≤ t / r.grid * r.grid := Int.mul_nonneg hq0 (by omega)
  have hl1 : t / r.grid * r.grid ≤ t := Int.ediv_mul_le _ (by omega)
  have hgp : gridP r t e = if t / r.grid * r.grid = t then t else if (r.mode = 1 ∧ e = false) ∨ (r.mode = 2 ∧ e = true) ∨ (r.mode = 3 ∧ r.grid ≤ 2 * (t - t / r.grid * r.grid)) then t / r.grid * r.grid + r.grid else t / r.grid * r.grid := by
    rw [gridP, if_neg hg1]
  rw [Int.tdiv_eq_ediv_of_nonneg h0, wrap_i64 (x := t / r.grid) (by omega) (by omega), wrap_i64 (x := t / r.grid * r.grid) (by omega) (by omega)]
  generalize t / r.grid * r.grid = low at hl0 hl1 hgp ⊢
  rw [hgp]
  refine condC_intro ?_ ?_ <;> intro hg2 <;> simp only [decide_eq_true_eq, decide_eq_false_iff_not, beq_iff_eq, beq_eq_false_iff_ne, bne_iff_ne, bne_eq_false_iff_eq, Bool.not_eq_true', Bool.not_eq_false', Int.not_lt, Int.not_le, ne_eq, Bool.and_eq_true, Bool.or_eq_true, Bool.or_eq_false_iff, Bool.and_eq_false_iff] at hg2 <;> simp only [go_sem, Nat.reduceAdd, Nat.reduceSub, Nat.reduceMul, Nat.reduceEqDiff, Nat.reduceLT, Nat.reduceLeDiff, Nat.reduceBEq, reduceIte, reduceCtorEq, Int.reduceToNat, Int.reduceLE, Int.reduceLT, Int.reduceBEq, Int.reduceBNe, a75, a75r0, a75r1, a75r2, a75r3, a75r4, a75r5, a75r6, a75r7, a75r8, a75r9, a75r10, a75r11, a75r12, a75r13, a75r14, a75r15, a75r16]
  · exact Cl.fin rfl ⟨by rw [if_pos hg2], rfl⟩
  have hw1 : IntKind.i64.wrap (t - low) = t - low := wrap_i64 (by omega) (by omega)
  have hw2 : IntKind.i64.wrap (2 * (t - low)) = 2 * (t - low) := wrap_i64 (by omega) (by omega)
  have hw3 : IntKind.i64.wrap (low + r.grid) = low + r.grid := wrap_i64 (by omega) (by omega)
  rw [if_neg hg2]
  obtain hmd | hmd | hmd : r.mode = 1 ∨ r.mode = 2 ∨ r.mode = 3 := by omega
  · cases e <;> simp only [go_sem, Nat.reduceAdd, Nat.reduceSub, Nat.reduceMul, Nat.reduceEqDiff, Nat.reduceLT, Nat.reduceLeDiff, Nat.reduceBEq, reduceIte, reduceCtorEq, Int.reduceToNat, Int.reduceLE, Int.reduceLT, Int.reduceBEq, Int.reduceBNe, a75, a75r0, a75r1, a75r2, a75r3, a75r4, a75r5, a75r6, a75r7, a75r8, a75r9, a75r10, a75r11, a75r12, a75r13, a75r14, a75r15, a75r16, hmd, hw1, hw2, hw3]
    all_goals exact Cl.fin rfl ⟨by simp, rfl⟩
  · cases e <;> simp only [go_sem, Nat.reduceAdd, Nat.reduceSub, Nat.reduceMul, Nat.reduceEqDiff, Nat.reduceLT, Nat.reduceLeDiff, Nat.reduceBEq, reduceIte, reduceCtorEq, Int.reduceToNat, Int.reduceLE, Int.reduceLT, Int.reduceBEq, Int.reduceBNe, a75, a75r0, a75r1, a75r2, a75r3, a75r4, a75r5, a75r6, a75r7, a75r8, a75r9, a75r10, a75r11, a75r12, a75r13, a75r14, a75r15, a75r16, hmd, hw1, hw2, hw3]
    all_goals exact Cl.fin rfl ⟨by simp, rfl⟩
  · simp only [go_sem, Nat.reduceAdd, Nat.reduceSub, Nat.reduceMul, Nat.reduceEqDiff, Nat.reduceLT, Nat.reduceLeDiff, Nat.reduceBEq, reduceIte, reduceCtorEq, Int.reduceToNat, Int.reduceLE, Int.reduceLT, Int.reduceBEq, Int.reduceBNe, a75, a75r0, a75r1, a75r2, a75r3, a75r4, a75r5, a75r6, a75r7, a75r8, a75r9, a75r10, a75r11, a75r12, a75r13, a75r14, a75r15, a75r16, hmd, hw1, hw2, hw3]
    repeat' (first | (refine grdC_intro ?_ ?_ <;> intro hg <;> (have hp := hg; try simp only [decide_eq_true_eq, decide_eq_false_iff_not, beq_iff_eq, beq_eq_false_iff_ne, bne_iff_ne, bne_eq_false_iff_eq, Bool.not_eq_true', Bool.not_eq_false', Int.not_lt, Int.not_le, ne_eq, Bool.and_eq_true, Bool.or_eq_true, Bool.or_eq_false_iff, Bool.and_eq_false_iff] at hp) <;> (first | omega | (simp only [go_sem, Nat.reduceAdd, Nat.reduceSub, Nat.reduceMul, Nat.reduceEqDiff, Nat.reduceLT, Nat.reduceLeDiff, Nat.reduceBEq, reduceIte, reduceCtorEq, Int.reduceToNat, Int.reduceLE, Int.reduceLT, Int.reduceBEq, Int.reduceBNe, hg, a75, a75r0, a75r1, a75r2, a75r3, a75r4, a75r5, a75r6, a75r7, a75r8, a75r9, a75r10, a75r11, a75r12, a75r13, a75r14, a75r15, a75r16, hmd, hw1, hw2, hw3]; clear hg))) | (refine grdD_intro ?_ ?_ <;> intro hg <;> (have hp := hg; try simp only [decide_eq_true_eq, decide_eq_false_iff_not, beq_iff_eq, beq_eq_false_iff_ne, bne_iff_ne, bne_eq_false_iff_eq, Bool.not_eq_true', Bool.not_eq_false', Int.not_lt, Int.not_le, ne_eq, Bool.and_eq_true, Bool.or_eq_true, Bool.or_eq_false_iff, Bool.and_eq_false_iff] at hp) <;> (first | omega | (simp only [go_sem, Nat.reduceAdd, Nat.reduceSub, Nat.reduceMul, Nat.reduceEqDiff, Nat.reduceLT, Nat.reduceLeDiff, Nat.reduceBEq, reduceIte, reduceCtorEq, Int.reduceToNat, Int.reduceLE, Int.reduceLT, Int.reduceBEq, Int.reduceBNe, hg, a75, a75r0, a75r1, a75r2, a75r3, a75r4, a75r5, a75r6, a75r7, a75r8, a75r9, a75r10, a75r11, a75r12, a75r13, a75r14, a75r15, a75r16, hmd, hw1, hw2, hw3]; clear hg))) | (refine condC_intro ?_ ?_ <;> intro hg <;> (have hp := hg; try simp only [decide_eq_true_eq, decide_eq_false_iff_not, beq_iff_eq, beq_eq_false_iff_ne, bne_iff_ne, bne_eq_false_iff_eq, Bool.not_eq_true', Bool.not_eq_false', Int.not_lt, Int.not_le, ne_eq, Bool.and_eq_true, Bool.or_eq_true, Bool.or_eq_false_iff, Bool.and_eq_false_iff] at hp) <;> (first | omega | (simp only [go_sem, Nat.reduceAdd, Nat.reduceSub, Nat.reduceMul, Nat.reduceEqDiff, Nat.reduceLT, Nat.reduceLeDiff, Nat.reduceBEq, reduceIte, reduceCtorEq, Int.reduceToNat, Int.reduceLE, Int.reduceLT, Int.reduceBEq, Int.reduceBNe, hg, a75, a75r0, a75r1, a75r2, a75r3, a75r4, a75r5, a75r6, a75r7, a75r8, a75r9, a75r10, a75r11, a75r12, a75r13, a75r14, a75r15, a75r16, hmd, hw1, hw2, hw3]; clear hg))) | (refine condW_intro ?_ ?_ <;> intro hg <;> (have hp := hg; try simp only [decide_eq_true_eq, decide_eq_false_iff_not, beq_iff_eq, beq_eq_false_iff_ne, bne_iff_ne, bne_eq_false_iff_eq, Bool.not_eq_true', Bool.not_eq_false', Int.not_lt, Int.not_le, ne_eq, Bool.and_eq_true, Bool.or_eq_true, Bool.or_eq_false_iff, Bool.and_eq_false_iff] at hp) <;> (first | omega | (simp only [go_sem, Nat.reduceAdd, Nat.reduceSub, Nat.reduceMul, Nat.reduceEqDiff, Nat.reduceLT, Nat.reduceLeDiff, Nat.reduceBEq, reduceIte, reduceCtorEq, Int.reduceToNat, Int.reduceLE, Int.reduceLT, Int.reduceBEq, Int.reduceBNe, hg, a75, a75r0, a75r1, a75r2, a75r3, a75r4, a75r5, a75r6, a75r7, a75r8, a75r9, a75r10, a75r11, a75r12, a75r13, a75r14, a75r15, a75r16, hmd, hw1, hw2, hw3]; clear hg))))
    · exact Cl.fin rfl ⟨by rw [if_pos (by omega)], rfl⟩
    · exact Cl.fin rfl ⟨by rw [if_neg (by omega)], rfl⟩

end Go.Proofs.Ytjacobmkfkmdiaa
