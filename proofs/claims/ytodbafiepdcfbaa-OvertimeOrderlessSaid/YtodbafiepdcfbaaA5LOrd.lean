/- OvertimeOrderless: the walk. -/
import Derived.Test.YtodbafiepdcfbaaA5Sane
import Derived.Test.YtodbafiepdcfbaaA5Got
import Derived.Test.YtodbafiepdcfbaaA5Wks
import Derived.Test.YtodbafiepdcfbaaA5Bnd
import Derived.Test.YtodbafiepdcfbaaA5OrdPl
set_option linter.unusedSimpArgs false
set_option linter.unusedVariables false
set_option linter.unusedSectionVars false
namespace Go.Proofs.Ytodbafiepdcfbaa
open Go Go.Abs
set_option linter.unusedSimpArgs false
set_option linter.unusedVariables false

theorem same_ok (L : List Pc) (hL : L.length ≤ 1000000) : AFn Try.prog 23 [.pure 4 (els L), .pure 4 (els L)] [] (fun v rs => v = .bool true ∧ rs = []) := by
  refine afn Try.func23 a23_ok (by simp [a23]) ?_
  simp only [go_sem, Nat.reduceAdd, Nat.reduceSub, Nat.reduceMul, Nat.reduceEqDiff, Nat.reduceLT, Nat.reduceLeDiff, Nat.reduceBEq, reduceIte, reduceCtorEq, Int.reduceToNat, Int.reduceLE, Int.reduceLT, Int.reduceBEq, Int.reduceBNe, a23, a23r0, a23r1, a23r2, a23r3, a23r4, a23r5, a23r6, a23r7, a23r8, bne_self_eq_false]
  refine avc_loop (fun env rows => ∃ i : Nat, i ≤ L.length ∧ env = [(0, .pure 4 (els L)), (1, .pure 4 (els L)), (5, .int .i64 i)] ∧ rows = [])
    (fun env _ => match slot env 5 with | .int _ j => (L.length - j).toNat | _ => 0) ?_ ?_
  · exact Cl.here ⟨0, by omega, rfl, rfl⟩
  rintro env rows ⟨i, hi, rfl, rfl⟩
  have hw1 : IntKind.i64.wrap ((i : Int) + 1) = ((i + 1 : Nat) : Int) := by rw [wrap_i64 (by omega) (by omega)]; omega
  simp only [go_sem, Nat.reduceAdd, Nat.reduceSub, Nat.reduceMul, Nat.reduceEqDiff, Nat.reduceLT, Nat.reduceLeDiff, Nat.reduceBEq, reduceIte, reduceCtorEq, Int.reduceToNat, Int.reduceLE, Int.reduceLT, Int.reduceBEq, Int.reduceBNe, a23, a23r0, a23r1, a23r2, a23r3, a23r4, a23r5, a23r6, a23r7, a23r8]
  refine condC_intro ?_ ?_ <;> intro hg1 <;> simp only [decide_eq_true_eq, decide_eq_false_iff_not, beq_iff_eq, beq_eq_false_iff_ne, bne_iff_ne, bne_eq_false_iff_eq, Bool.not_eq_true', Bool.not_eq_false', Int.not_lt, Int.not_le, ne_eq, Bool.and_eq_true, Bool.or_eq_true, Bool.or_eq_false_iff, Bool.and_eq_false_iff] at hg1 <;> simp only [go_sem, Nat.reduceAdd, Nat.reduceSub, Nat.reduceMul, Nat.reduceEqDiff, Nat.reduceLT, Nat.reduceLeDiff, Nat.reduceBEq, reduceIte, reduceCtorEq, Int.reduceToNat, Int.reduceLE, Int.reduceLT, Int.reduceBEq, Int.reduceBNe, a23, a23r0, a23r1, a23r2, a23r3, a23r4, a23r5, a23r6, a23r7, a23r8]
  · have hlt : i < L.length := by omega
    have hgj : (els L).getD i [] = Cel.c L[i] := els_getD hlt
    have hj0 : (0 : Int) ≤ i := by omega
    have hj1 : (i : Int) < L.length := by omega
    simp only [go_sem, Nat.reduceAdd, Nat.reduceSub, Nat.reduceMul, Nat.reduceEqDiff, Nat.reduceLT, Nat.reduceLeDiff, Nat.reduceBEq, reduceIte, reduceCtorEq, Int.reduceToNat, Int.reduceLE, Int.reduceLT, Int.reduceBEq, Int.reduceBNe, hj0, hj1, hgj, cel_pc, beq_self_eq_true, sEq_refl, hw1]
    refine Cl.here ⟨⟨i + 1, by omega, rfl, rfl⟩, ?_⟩
    simp only [go_sem, Nat.reduceAdd, Nat.reduceSub, Nat.reduceMul, Nat.reduceEqDiff, Nat.reduceLT, Nat.reduceLeDiff, Nat.reduceBEq, reduceIte, reduceCtorEq, Int.reduceToNat, Int.reduceLE, Int.reduceLT, Int.reduceBEq, Int.reduceBNe]
    omega
  · exact Cl.fin rfl ⟨rfl, rfl⟩

theorem overtimeOrderless (l : List Int) (hl : TapeOk l) (n : Int) : AFn Try.prog 5 [.pure 1 (numsE .i64 l), .int .i64 n] [] (fun v _ => v = .bool true) := by
  refine afnW Try.func5 a5_ok (by simp [a5]) ?_
  simp only [go_sem, Nat.reduceAdd, Nat.reduceSub, Nat.reduceMul, Nat.reduceEqDiff, Nat.reduceLT, Nat.reduceLeDiff, Nat.reduceBEq, reduceIte, reduceCtorEq, Int.reduceToNat, Int.reduceLE, Int.reduceLT, Int.reduceBEq, Int.reduceBNe, a5, a5r0, a5r1, a5r2, a5r3, a5r4, a5r5, a5r6, a5r7, a5r8, a5r9, a5r10, a5r11, a5r12, a5r13, a5r14, a5r15, a5r16, a5r17, a5r18, a5r19]
  repeat (refine Cl.here ?_; simp only [go_sem, Nat.reduceAdd, Nat.reduceSub, Nat.reduceMul, Nat.reduceEqDiff, Nat.reduceLT, Nat.reduceLeDiff, Nat.reduceBEq, reduceIte, reduceCtorEq, Int.reduceToNat, Int.reduceLE, Int.reduceLT, Int.reduceBEq, Int.reduceBNe])
  (refine callC_of [] [] (by simp) rfl (bindL_clean _ (by first | rfl | simp only [go_sem, Nat.reduceAdd, Nat.reduceSub, Nat.reduceMul, Nat.reduceEqDiff, Nat.reduceLT, Nat.reduceLeDiff, Nat.reduceBEq, reduceIte, reduceCtorEq, Int.reduceToNat, Int.reduceLE, Int.reduceLT, Int.reduceBEq, Int.reduceBNe])) (new_ok l) ?_; rintro _ _ ⟨rfl, rfl⟩; refine ⟨.inl rfl, ?_⟩; simp only [go_sem, Nat.reduceAdd, Nat.reduceSub, Nat.reduceMul, Nat.reduceEqDiff, Nat.reduceLT, Nat.reduceLeDiff, Nat.reduceBEq, reduceIte, reduceCtorEq, Int.reduceToNat, Int.reduceLE, Int.reduceLT, Int.reduceBEq, Int.reduceBNe])
  repeat (refine Cl.here ?_; simp only [go_sem, Nat.reduceAdd, Nat.reduceSub, Nat.reduceMul, Nat.reduceEqDiff, Nat.reduceLT, Nat.reduceLeDiff, Nat.reduceBEq, reduceIte, reduceCtorEq, Int.reduceToNat, Int.reduceLE, Int.reduceLT, Int.reduceBEq, Int.reduceBNe])
  (refine callC_of [0] [] (by decide) (by simp only [go_sem, Nat.reduceAdd, Nat.reduceSub, Nat.reduceMul, Nat.reduceEqDiff, Nat.reduceLT, Nat.reduceLeDiff, Nat.reduceBEq, reduceIte, reduceCtorEq, Int.reduceToNat, Int.reduceLE, Int.reduceLT, Int.reduceBEq, Int.reduceBNe] <;> rfl) (by simp only [go_sem, Nat.reduceAdd, Nat.reduceSub, Nat.reduceMul, Nat.reduceEqDiff, Nat.reduceLT, Nat.reduceLeDiff, Nat.reduceBEq, reduceIte, reduceCtorEq, Int.reduceToNat, Int.reduceLE, Int.reduceLT, Int.reduceBEq, Int.reduceBNe] <;> rfl) (bands_ok l hl 0 (by omega) (by omega)) ?_; rintro _ _ ⟨at_, R, rfl, rfl, h0, h1, hR⟩; refine ⟨.inl rfl, ?_⟩; simp only [go_sem, Nat.reduceAdd, Nat.reduceSub, Nat.reduceMul, Nat.reduceEqDiff, Nat.reduceLT, Nat.reduceLeDiff, Nat.reduceBEq, reduceIte, reduceCtorEq, Int.reduceToNat, Int.reduceLE, Int.reduceLT, Int.reduceBEq, Int.reduceBNe])
  unfold tp
  simp only [go_sem, Nat.reduceAdd, Nat.reduceSub, Nat.reduceMul, Nat.reduceEqDiff, Nat.reduceLT, Nat.reduceLeDiff, Nat.reduceBEq, reduceIte, reduceCtorEq, Int.reduceToNat, Int.reduceLE, Int.reduceLT, Int.reduceBEq, Int.reduceBNe]
  (refine callC_of [0] [] (by decide) (by simp only [go_sem, Nat.reduceAdd, Nat.reduceSub, Nat.reduceMul, Nat.reduceEqDiff, Nat.reduceLT, Nat.reduceLeDiff, Nat.reduceBEq, reduceIte, reduceCtorEq, Int.reduceToNat, Int.reduceLE, Int.reduceLT, Int.reduceBEq, Int.reduceBNe] <;> rfl) (by simp only [go_sem, Nat.reduceAdd, Nat.reduceSub, Nat.reduceMul, Nat.reduceEqDiff, Nat.reduceLT, Nat.reduceLeDiff, Nat.reduceBEq, reduceIte, reduceCtorEq, Int.reduceToNat, Int.reduceLE, Int.reduceLT, Int.reduceBEq, Int.reduceBNe] <;> rfl) (works_ok l hl 5 (by omega) (by omega) at_ h0 h1) ?_; rintro _ _ ⟨at_, ws, rfl, rfl, h0, h1, hn, hg, hdj⟩; refine ⟨.inl rfl, ?_⟩; simp only [go_sem, Nat.reduceAdd, Nat.reduceSub, Nat.reduceMul, Nat.reduceEqDiff, Nat.reduceLT, Nat.reduceLeDiff, Nat.reduceBEq, reduceIte, reduceCtorEq, Int.reduceToNat, Int.reduceLE, Int.reduceLT, Int.reduceBEq, Int.reduceBNe])
  unfold tp Rl.v
  simp only [go_sem, Nat.reduceAdd, Nat.reduceSub, Nat.reduceMul, Nat.reduceEqDiff, Nat.reduceLT, Nat.reduceLeDiff, Nat.reduceBEq, reduceIte, reduceCtorEq, Int.reduceToNat, Int.reduceLE, Int.reduceLT, Int.reduceBEq, Int.reduceBNe]
  have hlen : ws.length ≤ 5 := by omega
  (refine Cl.frz [some 0, some 2] [ 1] rfl rfl (by simp only [go_sem, Nat.reduceAdd, Nat.reduceSub, Nat.reduceMul, Nat.reduceEqDiff, Nat.reduceLT, Nat.reduceLeDiff, Nat.reduceBEq, reduceIte, reduceCtorEq, Int.reduceToNat, Int.reduceLE, Int.reduceLT, Int.reduceBEq, Int.reduceBNe] <;> rfl) ?_; simp only [go_sem, Nat.reduceAdd, Nat.reduceSub, Nat.reduceMul, Nat.reduceEqDiff, Nat.reduceLT, Nat.reduceLeDiff, Nat.reduceBEq, reduceIte, reduceCtorEq, Int.reduceToNat, Int.reduceLE, Int.reduceLT, Int.reduceBEq, Int.reduceBNe])
  have hv := mk_sp (by omega) hg hdj
  have hvR := rlOk_v hR
  repeat (refine Cl.here ?_; simp only [go_sem, Nat.reduceAdd, Nat.reduceSub, Nat.reduceMul, Nat.reduceEqDiff, Nat.reduceLT, Nat.reduceLeDiff, Nat.reduceBEq, reduceIte, reduceCtorEq, Int.reduceToNat, Int.reduceLE, Int.reduceLT, Int.reduceBEq, Int.reduceBNe])
  rw [wrap_i64 (x := (ws.length : Int) + 1) (by omega) (by omega)]
  refine callC_det (mod_ok n (ws.length + 1) (by omega) (by omega)) rfl rfl ?_
  have hkm : 0 ≤ mod n (ws.length + 1) ∧ mod n (ws.length + 1) < ws.length + 1 := mod_bounds (by omega)
  generalize mod n (ws.length + 1) = kk at hkm
  obtain ⟨k, rfl⟩ : ∃ k : Nat, kk = k := ⟨kk.toNat, by omega⟩
  have hk0 := hkm.1
  have hk1 : (k : Int) ≤ ws.length := by omega
  simp only [go_sem, Nat.reduceAdd, Nat.reduceSub, Nat.reduceMul, Nat.reduceEqDiff, Nat.reduceLT, Nat.reduceLeDiff, Nat.reduceBEq, reduceIte, reduceCtorEq, Int.reduceToNat, Int.reduceLE, Int.reduceLT, Int.reduceBEq, Int.reduceBNe]
  repeat (refine Cl.here ?_; simp only [go_sem, Nat.reduceAdd, Nat.reduceSub, Nat.reduceMul, Nat.reduceEqDiff, Nat.reduceLT, Nat.reduceLeDiff, Nat.reduceBEq, reduceIte, reduceCtorEq, Int.reduceToNat, Int.reduceLE, Int.reduceLT, Int.reduceBEq, Int.reduceBNe])
  simp only [go_sem, Nat.reduceAdd, Nat.reduceSub, Nat.reduceMul, Nat.reduceEqDiff, Nat.reduceLT, Nat.reduceLeDiff, Nat.reduceBEq, reduceIte, reduceCtorEq, Int.reduceToNat, Int.reduceLE, Int.reduceLT, Int.reduceBEq, Int.reduceBNe, hk0, hk1]
  have hkl : k ≤ ws.length := by omega
  have hc : List.take (ws.length - k) (List.drop k ws) = ws.drop k := List.take_of_length_le (by rw [List.length_drop]; omega)
  rw [hc, Nat.sub_zero]
  have hpt : (ws.drop k ++ ws.take k).Perm ws := by
    have := List.perm_append_comm (l₁ := ws.drop k) (l₂ := ws.take k)
    rwa [List.take_append_drop] at this
  have hl1 : (ws.drop k).length + (ws.take k).length = (ws.drop k ++ ws.take k).length := by rw [List.length_append]
  refine ⟨by omega, ?_⟩
  have hl2 : (ws.drop k).length ≤ 5 := by rw [List.length_drop]; omega
  have hl3 : (ws.take k).length ≤ 5 := by rw [List.length_take]; omega
  refine ⟨by omega, by omega, ?_⟩
  rw [hl1]
  have htl : (ws.drop k ++ ws.take k).length ≤ 5 := by rw [hpt.length_eq]; omega
  have htg : ∀ w ∈ ws.drop k ++ ws.take k, wkG w := fun w hw => hg w (hpt.mem_iff.1 hw)
  have htd : (flatS (ws.drop k ++ ws.take k)).Pairwise disj := (pw_perm (flatS_perm hpt)).2 hdj
  generalize ws.drop k ++ ws.take k = tr at *
  (refine Cl.frz [some 0, some 1] [ 2] rfl rfl (by simp only [go_sem, Nat.reduceAdd, Nat.reduceSub, Nat.reduceMul, Nat.reduceEqDiff, Nat.reduceLT, Nat.reduceLeDiff, Nat.reduceBEq, reduceIte, reduceCtorEq, Int.reduceToNat, Int.reduceLE, Int.reduceLT, Int.reduceBEq, Int.reduceBNe] <;> rfl) ?_; simp only [go_sem, Nat.reduceAdd, Nat.reduceSub, Nat.reduceMul, Nat.reduceEqDiff, Nat.reduceLT, Nat.reduceLeDiff, Nat.reduceBEq, reduceIte, reduceCtorEq, Int.reduceToNat, Int.reduceLE, Int.reduceLT, Int.reduceBEq, Int.reduceBNe])
  repeat (refine Cl.here ?_; simp only [go_sem, Nat.reduceAdd, Nat.reduceSub, Nat.reduceMul, Nat.reduceEqDiff, Nat.reduceLT, Nat.reduceLeDiff, Nat.reduceBEq, reduceIte, reduceCtorEq, Int.reduceToNat, Int.reduceLE, Int.reduceLT, Int.reduceBEq, Int.reduceBNe])
  refine avcW_loop (fun env rows => ∃ (a : Int) (i : Nat) (M : List Wk), env = [(5, .ref 0 1 0 0), (6, .ref 1 1 0 0), (7, .pure 2 (els ws)), (8, .own 2 M.length 0 M.length), (10, .pure 2 (els tr)), (11, .int .i64 i)] ∧ rows = [tapeRow 81 l a, .live 36 3 [[.str R.nm, .pure 2 (els R.dy), .pure 2 (els R.wk)]], .live 46 2 (els M)] ∧ 0 ≤ a ∧ a ≤ l.length ∧ i ≤ tr.length ∧ Cut (flatS (tr.take i)) M)
    (fun env _ => match slot env 11 with | .int _ j => (tr.length - j).toNat | _ => 0) ?_ ?_
  · (refine Cl.ghost 8  46  2 rfl (Cl.norm [ 5, 6, 7, 8, 10, 11] ?_); simp only [go_sem, Nat.reduceAdd, Nat.reduceSub, Nat.reduceMul, Nat.reduceEqDiff, Nat.reduceLT, Nat.reduceLeDiff, Nat.reduceBEq, reduceIte, reduceCtorEq, Int.reduceToNat, Int.reduceLE, Int.reduceLT, Int.reduceBEq, Int.reduceBNe])
    exact Cl.here ⟨at_, 0, [], rfl, rfl, h0, h1, by omega, Cut.nil⟩
  clear h0 h1
  rintro env rows ⟨at_, i, M, rfl, rfl, h0, h1, hi, hM⟩
  have hw1 : IntKind.i64.wrap ((i : Int) + 1) = ((i + 1 : Nat) : Int) := by rw [wrap_i64 (by omega) (by omega)]; omega
  simp only [go_sem, Nat.reduceAdd, Nat.reduceSub, Nat.reduceMul, Nat.reduceEqDiff, Nat.reduceLT, Nat.reduceLeDiff, Nat.reduceBEq, reduceIte, reduceCtorEq, Int.reduceToNat, Int.reduceLE, Int.reduceLT, Int.reduceBEq, Int.reduceBNe, a5, a5r0, a5r1, a5r2, a5r3, a5r4, a5r5, a5r6, a5r7, a5r8, a5r9, a5r10, a5r11, a5r12, a5r13, a5r14, a5r15, a5r16, a5r17, a5r18, a5r19]
  repeat (refine Cl.here ?_; simp only [go_sem, Nat.reduceAdd, Nat.reduceSub, Nat.reduceMul, Nat.reduceEqDiff, Nat.reduceLT, Nat.reduceLeDiff, Nat.reduceBEq, reduceIte, reduceCtorEq, Int.reduceToNat, Int.reduceLE, Int.reduceLT, Int.reduceBEq, Int.reduceBNe])
  refine condW_intro ?_ ?_ <;> intro hg1 <;> simp only [decide_eq_true_eq, decide_eq_false_iff_not, beq_iff_eq, beq_eq_false_iff_ne, bne_iff_ne, bne_eq_false_iff_eq, Bool.not_eq_true', Bool.not_eq_false', Int.not_lt, Int.not_le, ne_eq, Bool.and_eq_true, Bool.or_eq_true, Bool.or_eq_false_iff, Bool.and_eq_false_iff] at hg1 <;> simp only [go_sem, Nat.reduceAdd, Nat.reduceSub, Nat.reduceMul, Nat.reduceEqDiff, Nat.reduceLT, Nat.reduceLeDiff, Nat.reduceBEq, reduceIte, reduceCtorEq, Int.reduceToNat, Int.reduceLE, Int.reduceLT, Int.reduceBEq, Int.reduceBNe, a5, a5r0, a5r1, a5r2, a5r3, a5r4, a5r5, a5r6, a5r7, a5r8, a5r9, a5r10, a5r11, a5r12, a5r13, a5r14, a5r15, a5r16, a5r17, a5r18, a5r19]
  · have hlt : i < tr.length := by omega
    have hgj : (els tr).getD i [] = Cel.c tr[i] := els_getD hlt
    have hj0 : (0 : Int) ≤ i := by omega
    have hj1 : (i : Int) < tr.length := by omega
    have hgw := htg _ (List.getElem_mem hlt)
    have htk : flatS (tr.take (i + 1)) = flatS (tr.take i) ++ flatW tr[i] := flatS_take hlt
    have htd2 : (flatS (tr.take (i + 1))).Pairwise disj := by
      have e : flatS tr = flatS (tr.take (i + 1)) ++ flatS (tr.drop (i + 1)) := by
        unfold flatS; rw [← List.flatMap_append, List.take_append_drop]
      rw [e] at htd
      exact (List.pairwise_append.1 htd).1
    rw [htk] at htd2
    generalize hw : tr[i] = w at *
    (refine Cl.here ?_; simp only [go_sem, Nat.reduceAdd, Nat.reduceSub, Nat.reduceMul, Nat.reduceEqDiff, Nat.reduceLT, Nat.reduceLeDiff, Nat.reduceBEq, reduceIte, reduceCtorEq, Int.reduceToNat, Int.reduceLE, Int.reduceLT, Int.reduceBEq, Int.reduceBNe])
    simp only [go_sem, Nat.reduceAdd, Nat.reduceSub, Nat.reduceMul, Nat.reduceEqDiff, Nat.reduceLT, Nat.reduceLeDiff, Nat.reduceBEq, reduceIte, reduceCtorEq, Int.reduceToNat, Int.reduceLE, Int.reduceLT, Int.reduceBEq, Int.reduceBNe, hj0, hj1, hgj, cel_wk]
    rw [wrap_i64 (by have := hgw.1; omega) (by have := hgw.2.1; omega)]
    repeat (refine Cl.here ?_; simp only [go_sem, Nat.reduceAdd, Nat.reduceSub, Nat.reduceMul, Nat.reduceEqDiff, Nat.reduceLT, Nat.reduceLeDiff, Nat.reduceBEq, reduceIte, reduceCtorEq, Int.reduceToNat, Int.reduceLE, Int.reduceLT, Int.reduceBEq, Int.reduceBNe])
    refine avcW_loop (fun env rows => ∃ (a : Int) (q : Nat) (M : List Wk), env = [(5, .ref 0 1 0 0), (6, .ref 1 1 0 0), (7, .pure 2 (els ws)), (8, .own 2 M.length 0 M.length), (10, .pure 2 (els tr)), (11, .int .i64 i), (12, .int .i64 (q - 1))] ∧ rows = [tapeRow 81 l a, .live 36 3 [[.str R.nm, .pure 2 (els R.dy), .pure 2 (els R.wk)]], .live 46 2 (els M)] ∧ 0 ≤ a ∧ a ≤ l.length ∧ q ≤ w.iv.length ∧ Cut (flatS (tr.take i) ++ (flatW w).drop q) M)
      (fun env _ => match slot env 12 with | .int _ j => (j + 1).toNat | _ => 0) ?_ ?_
    · refine Cl.here ⟨at_, w.iv.length, M, rfl, rfl, h0, h1, by omega, ?_⟩
      rw [List.drop_of_length_le (by rw [flatW_length]; omega), List.append_nil]
      exact hM
    clear h0 h1 hM
    rintro env rows ⟨at_, q, M, rfl, rfl, h0, h1, hq, hM⟩
    simp only [go_sem, Nat.reduceAdd, Nat.reduceSub, Nat.reduceMul, Nat.reduceEqDiff, Nat.reduceLT, Nat.reduceLeDiff, Nat.reduceBEq, reduceIte, reduceCtorEq, Int.reduceToNat, Int.reduceLE, Int.reduceLT, Int.reduceBEq, Int.reduceBNe, a5, a5r0, a5r1, a5r2, a5r3, a5r4, a5r5, a5r6, a5r7, a5r8, a5r9, a5r10, a5r11, a5r12, a5r13, a5r14, a5r15, a5r16, a5r17, a5r18, a5r19]
    repeat (refine Cl.here ?_; simp only [go_sem, Nat.reduceAdd, Nat.reduceSub, Nat.reduceMul, Nat.reduceEqDiff, Nat.reduceLT, Nat.reduceLeDiff, Nat.reduceBEq, reduceIte, reduceCtorEq, Int.reduceToNat, Int.reduceLE, Int.reduceLT, Int.reduceBEq, Int.reduceBNe])
    refine condW_intro ?_ ?_ <;> intro hg2 <;> simp only [decide_eq_true_eq, decide_eq_false_iff_not, beq_iff_eq, beq_eq_false_iff_ne, bne_iff_ne, bne_eq_false_iff_eq, Bool.not_eq_true', Bool.not_eq_false', Int.not_lt, Int.not_le, ne_eq, Bool.and_eq_true, Bool.or_eq_true, Bool.or_eq_false_iff, Bool.and_eq_false_iff] at hg2 <;> simp only [go_sem, Nat.reduceAdd, Nat.reduceSub, Nat.reduceMul, Nat.reduceEqDiff, Nat.reduceLT, Nat.reduceLeDiff, Nat.reduceBEq, reduceIte, reduceCtorEq, Int.reduceToNat, Int.reduceLE, Int.reduceLT, Int.reduceBEq, Int.reduceBNe, a5, a5r0, a5r1, a5r2, a5r3, a5r4, a5r5, a5r6, a5r7, a5r8, a5r9, a5r10, a5r11, a5r12, a5r13, a5r14, a5r15, a5r16, a5r17, a5r18, a5r19]
    · obtain ⟨q, rfl⟩ : ∃ k, q = k + 1 := ⟨q - 1, by omega⟩
      have hql : q < w.iv.length := by omega
      have hivl := hgw.2.1
      have eq1 : (((q + 1 : Nat) : Int) - 1) = q := by omega
      rw [eq1]
      have hq0 : (0 : Int) ≤ q := by omega
      have hq1 : (q : Int) < w.iv.length := by omega
      have hgq : (els w.iv).getD q [] = Cel.c w.iv[q] := els_getD hql
      have hiv := hgw.2.2.2.2 _ (List.getElem_mem hql)
      have hdq : (flatW w).drop q = ⟨w.day, w.iv[q].fr, w.iv[q].to⟩ :: (flatW w).drop (q + 1) := by
        rw [List.drop_eq_getElem_cons (by rw [flatW_length]; omega)]
        simp [flatW]
      have hdisj : ∀ x ∈ flatS (tr.take i) ++ (flatW w).drop (q + 1), disj x ⟨w.day, w.iv[q].fr, w.iv[q].to⟩ := by
        have hsub : (flatS (tr.take i) ++ (flatW w).drop q).Pairwise disj := htd2.sublist (List.Sublist.append_left (List.drop_sublist _ _) _)
        rw [hdq, List.pairwise_append, List.pairwise_cons] at hsub
        intro x hx
        rcases List.mem_append.1 hx with hx | hx
        · exact hsub.2.2 x hx _ List.mem_cons_self
        · exact disj_symm (hsub.2.1.1 x hx)
      have hokv : okV w.day w.iv[q].fr w.iv[q].to := ⟨hgw.2.2.1, hgw.2.2.2.1, hiv⟩
      have hpq : ((⟨w.day, w.iv[q].fr, w.iv[q].to⟩ : Spn) :: (flatS (tr.take i) ++ (flatW w).drop (q + 1))).Perm (flatS (tr.take i) ++ (flatW w).drop q) := by
        rw [hdq]; exact List.perm_middle.symm
      generalize w.iv[q] = v at *
      (refine Cl.here ?_; simp only [go_sem, Nat.reduceAdd, Nat.reduceSub, Nat.reduceMul, Nat.reduceEqDiff, Nat.reduceLT, Nat.reduceLeDiff, Nat.reduceBEq, reduceIte, reduceCtorEq, Int.reduceToNat, Int.reduceLE, Int.reduceLT, Int.reduceBEq, Int.reduceBNe])
      simp only [go_sem, Nat.reduceAdd, Nat.reduceSub, Nat.reduceMul, Nat.reduceEqDiff, Nat.reduceLT, Nat.reduceLeDiff, Nat.reduceBEq, reduceIte, reduceCtorEq, Int.reduceToNat, Int.reduceLE, Int.reduceLT, Int.reduceBEq, Int.reduceBNe, hj0, hj1, hgj, cel_wk, hq0, hq1, hgq, cel_iv]
      (refine Cl.here ?_; simp only [go_sem, Nat.reduceAdd, Nat.reduceSub, Nat.reduceMul, Nat.reduceEqDiff, Nat.reduceLT, Nat.reduceLeDiff, Nat.reduceBEq, reduceIte, reduceCtorEq, Int.reduceToNat, Int.reduceLE, Int.reduceLT, Int.reduceBEq, Int.reduceBNe])
      rw [wrap_i64 (x := v.to - v.fr) (by omega) (by omega)]
      (refine callD_tape (next_ok l hl (v.to - v.fr) (by omega)) (by simp only [go_sem, Nat.reduceAdd, Nat.reduceSub, Nat.reduceMul, Nat.reduceEqDiff, Nat.reduceLT, Nat.reduceLeDiff, Nat.reduceBEq, reduceIte, reduceCtorEq, Int.reduceToNat, Int.reduceLE, Int.reduceLT, Int.reduceBEq, Int.reduceBNe]) rfl rfl (by omega) (by omega) ?_; rintro _ at_ _ _ ⟨ u, rfl, _, _⟩; simp only [go_sem, Nat.reduceAdd, Nat.reduceSub, Nat.reduceMul, Nat.reduceEqDiff, Nat.reduceLT, Nat.reduceLeDiff, Nat.reduceBEq, reduceIte, reduceCtorEq, Int.reduceToNat, Int.reduceLE, Int.reduceLT, Int.reduceBEq, Int.reduceBNe])
      rw [wrap_i64 (by omega) (by omega)]
      have hu : v.fr ≤ v.fr + u ∧ v.fr + u < v.to := by omega
      generalize v.fr + u = m at hu
      have hMl := hM.len
      have hMl2 : M.length ≤ 30 := by
        have a := flatS_len2 (ws := tr.take i) fun x hx => htg x (List.mem_of_mem_take hx)
        have b : ((flatW w).drop (q + 1)).length ≤ 2 := by rw [List.length_drop, flatW_length]; have := hgw.2.1; omega
        have c : (tr.take i).length ≤ 5 := by rw [List.length_take]; omega
        rw [List.length_append] at hMl
        omega
      clear hMl
      (refine Cl.here ?_; simp only [go_sem, Nat.reduceAdd, Nat.reduceSub, Nat.reduceMul, Nat.reduceEqDiff, Nat.reduceLT, Nat.reduceLeDiff, Nat.reduceBEq, reduceIte, reduceCtorEq, Int.reduceToNat, Int.reduceLE, Int.reduceLT, Int.reduceBEq, Int.reduceBNe])
      simp only [go_sem, Nat.reduceAdd, Nat.reduceSub, Nat.reduceMul, Nat.reduceEqDiff, Nat.reduceLT, Nat.reduceLeDiff, Nat.reduceBEq, reduceIte, reduceCtorEq, Int.reduceToNat, Int.reduceLE, Int.reduceLT, Int.reduceBEq, Int.reduceBNe, hj0, hj1, hgj, cel_wk, cel_iv]
      refine ⟨by omega, ?_⟩
      have e1 : els M ++ [[.int .i64 w.day, .pure 2 [[.int .i64 m, .int .i64 v.to]]]] = els (M ++ [⟨w.day, [⟨m, v.to⟩]⟩]) := wk_snoc (bs := [⟨m, v.to⟩])
      have e2 : els (M ++ [⟨w.day, [⟨m, v.to⟩]⟩]) ++ [[.int .i64 w.day, .pure 2 [[.int .i64 v.fr, .int .i64 m]]]] = els (M ++ [⟨w.day, [⟨m, v.to⟩]⟩] ++ [⟨w.day, [⟨v.fr, m⟩]⟩]) := wk_snoc (bs := [⟨v.fr, m⟩])
      (refine Cl.frz [some 0, some 1, some 2, some 3] [ 4] rfl rfl (by simp only [go_sem, Nat.reduceAdd, Nat.reduceSub, Nat.reduceMul, Nat.reduceEqDiff, Nat.reduceLT, Nat.reduceLeDiff, Nat.reduceBEq, reduceIte, reduceCtorEq, Int.reduceToNat, Int.reduceLE, Int.reduceLT, Int.reduceBEq, Int.reduceBNe] <;> rfl) ?_; simp only [go_sem, Nat.reduceAdd, Nat.reduceSub, Nat.reduceMul, Nat.reduceEqDiff, Nat.reduceLT, Nat.reduceLeDiff, Nat.reduceBEq, reduceIte, reduceCtorEq, Int.reduceToNat, Int.reduceLE, Int.reduceLT, Int.reduceBEq, Int.reduceBNe])
      rw [e1]
      have ln : M.length + 1 = (M ++ [⟨w.day, [⟨m, v.to⟩]⟩] : List Wk).length := by simp
      rw [ln]
      (refine Cl.here ?_; simp only [go_sem, Nat.reduceAdd, Nat.reduceSub, Nat.reduceMul, Nat.reduceEqDiff, Nat.reduceLT, Nat.reduceLeDiff, Nat.reduceBEq, reduceIte, reduceCtorEq, Int.reduceToNat, Int.reduceLE, Int.reduceLT, Int.reduceBEq, Int.reduceBNe])
      (refine Cl.here ?_; simp only [go_sem, Nat.reduceAdd, Nat.reduceSub, Nat.reduceMul, Nat.reduceEqDiff, Nat.reduceLT, Nat.reduceLeDiff, Nat.reduceBEq, reduceIte, reduceCtorEq, Int.reduceToNat, Int.reduceLE, Int.reduceLT, Int.reduceBEq, Int.reduceBNe])
      refine condW_intro ?_ ?_ <;> intro hg3 <;> simp only [decide_eq_true_eq, decide_eq_false_iff_not, beq_iff_eq, beq_eq_false_iff_ne, bne_iff_ne, bne_eq_false_iff_eq, Bool.not_eq_true', Bool.not_eq_false', Int.not_lt, Int.not_le, ne_eq, Bool.and_eq_true, Bool.or_eq_true, Bool.or_eq_false_iff, Bool.and_eq_false_iff] at hg3 <;> simp only [go_sem, Nat.reduceAdd, Nat.reduceSub, Nat.reduceMul, Nat.reduceEqDiff, Nat.reduceLT, Nat.reduceLeDiff, Nat.reduceBEq, reduceIte, reduceCtorEq, Int.reduceToNat, Int.reduceLE, Int.reduceLT, Int.reduceBEq, Int.reduceBNe, a5, a5r0, a5r1, a5r2, a5r3, a5r4, a5r5, a5r6, a5r7, a5r8, a5r9, a5r10, a5r11, a5r12, a5r13, a5r14, a5r15, a5r16, a5r17, a5r18, a5r19]
      · have hC := (hM.two hokv hg3 hu.2 hdisj).perm hpq
        have hlen3 : (M ++ [⟨w.day, [⟨m, v.to⟩]⟩] : List Wk).length ≤ 100 := by rw [← ln]; omega
        have ln2 : (M ++ [⟨w.day, [⟨m, v.to⟩]⟩] : List Wk).length + 1 = (M ++ [⟨w.day, [⟨m, v.to⟩]⟩] ++ [⟨w.day, [⟨v.fr, m⟩]⟩] : List Wk).length := by simp
        generalize hM2 : M ++ [⟨w.day, [⟨m, v.to⟩]⟩] = M2 at *
        simp only [go_sem, Nat.reduceAdd, Nat.reduceSub, Nat.reduceMul, Nat.reduceEqDiff, Nat.reduceLT, Nat.reduceLeDiff, Nat.reduceBEq, reduceIte, reduceCtorEq, Int.reduceToNat, Int.reduceLE, Int.reduceLT, Int.reduceBEq, Int.reduceBNe, hj0, hj1, hgj, cel_wk, cel_iv]
        refine ⟨by omega, ?_⟩
        (refine Cl.frz [some 0, some 1, some 2] [ 4] rfl rfl (by simp only [go_sem, Nat.reduceAdd, Nat.reduceSub, Nat.reduceMul, Nat.reduceEqDiff, Nat.reduceLT, Nat.reduceLeDiff, Nat.reduceBEq, reduceIte, reduceCtorEq, Int.reduceToNat, Int.reduceLE, Int.reduceLT, Int.reduceBEq, Int.reduceBNe] <;> rfl) ?_; simp only [go_sem, Nat.reduceAdd, Nat.reduceSub, Nat.reduceMul, Nat.reduceEqDiff, Nat.reduceLT, Nat.reduceLeDiff, Nat.reduceBEq, reduceIte, reduceCtorEq, Int.reduceToNat, Int.reduceLE, Int.reduceLT, Int.reduceBEq, Int.reduceBNe])
        rw [e2, ln2]
        repeat (refine Cl.here ?_; simp only [go_sem, Nat.reduceAdd, Nat.reduceSub, Nat.reduceMul, Nat.reduceEqDiff, Nat.reduceLT, Nat.reduceLeDiff, Nat.reduceBEq, reduceIte, reduceCtorEq, Int.reduceToNat, Int.reduceLE, Int.reduceLT, Int.reduceBEq, Int.reduceBNe])
        rw [wrap_i64 (by omega) (by omega)]
        exact ⟨⟨at_, q, _, rfl, rfl, by omega, by omega, by omega, hC⟩, by omega⟩
      · have hmf : m = v.fr := by omega
        subst hmf
        have hC := (hM.one hokv hdisj).perm hpq
        (refine Cl.tr [some 0, some 1, some 2] [] rfl rfl (by simp only [go_sem, Nat.reduceAdd, Nat.reduceSub, Nat.reduceMul, Nat.reduceEqDiff, Nat.reduceLT, Nat.reduceLeDiff, Nat.reduceBEq, reduceIte, reduceCtorEq, Int.reduceToNat, Int.reduceLE, Int.reduceLT, Int.reduceBEq, Int.reduceBNe] <;> rfl) ?_; simp only [go_sem, Nat.reduceAdd, Nat.reduceSub, Nat.reduceMul, Nat.reduceEqDiff, Nat.reduceLT, Nat.reduceLeDiff, Nat.reduceBEq, reduceIte, reduceCtorEq, Int.reduceToNat, Int.reduceLE, Int.reduceLT, Int.reduceBEq, Int.reduceBNe])
        repeat (refine Cl.here ?_; simp only [go_sem, Nat.reduceAdd, Nat.reduceSub, Nat.reduceMul, Nat.reduceEqDiff, Nat.reduceLT, Nat.reduceLeDiff, Nat.reduceBEq, reduceIte, reduceCtorEq, Int.reduceToNat, Int.reduceLE, Int.reduceLT, Int.reduceBEq, Int.reduceBNe])
        rw [wrap_i64 (by omega) (by omega)]
        exact ⟨⟨at_, q, _, rfl, rfl, by omega, by omega, by omega, hC⟩, by omega⟩
    · have hq00 : q = 0 := by omega
      subst hq00
      rw [List.drop_zero, ← htk] at hM
      repeat (refine Cl.here ?_; simp only [go_sem, Nat.reduceAdd, Nat.reduceSub, Nat.reduceMul, Nat.reduceEqDiff, Nat.reduceLT, Nat.reduceLeDiff, Nat.reduceBEq, reduceIte, reduceCtorEq, Int.reduceToNat, Int.reduceLE, Int.reduceLT, Int.reduceBEq, Int.reduceBNe])
      simp only [go_sem, Nat.reduceAdd, Nat.reduceSub, Nat.reduceMul, Nat.reduceEqDiff, Nat.reduceLT, Nat.reduceLeDiff, Nat.reduceBEq, reduceIte, reduceCtorEq, Int.reduceToNat, Int.reduceLE, Int.reduceLT, Int.reduceBEq, Int.reduceBNe, hw1]
      exact ⟨⟨at_, i + 1, M, rfl, rfl, h0, h1, by omega, hM⟩, by omega⟩
  have hie : tr.take i = tr := List.take_of_length_le (by omega)
  rw [hie] at hM
  have hMl : M.length ≤ 20 := by
    have a := hM.len
    have := flatS_len2 htg
    omega
  have hvM := mk_sp hMl hM.g hM.dj
  (refine Cl.frz [some 1] [ 2] rfl rfl (by simp only [go_sem, Nat.reduceAdd, Nat.reduceSub, Nat.reduceMul, Nat.reduceEqDiff, Nat.reduceLT, Nat.reduceLeDiff, Nat.reduceBEq, reduceIte, reduceCtorEq, Int.reduceToNat, Int.reduceLE, Int.reduceLT, Int.reduceBEq, Int.reduceBNe] <;> rfl) ?_; simp only [go_sem, Nat.reduceAdd, Nat.reduceSub, Nat.reduceMul, Nat.reduceEqDiff, Nat.reduceLT, Nat.reduceLeDiff, Nat.reduceBEq, reduceIte, reduceCtorEq, Int.reduceToNat, Int.reduceLE, Int.reduceLT, Int.reduceBEq, Int.reduceBNe])
  repeat (refine Cl.here ?_; simp only [go_sem, Nat.reduceAdd, Nat.reduceSub, Nat.reduceMul, Nat.reduceEqDiff, Nat.reduceLT, Nat.reduceLeDiff, Nat.reduceBEq, reduceIte, reduceCtorEq, Int.reduceToNat, Int.reduceLE, Int.reduceLT, Int.reduceBEq, Int.reduceBNe])
  refine callC_of [] [] (by simp) rfl (bindL_clean _ (by first | rfl | simp only [go_sem, Nat.reduceAdd, Nat.reduceSub, Nat.reduceMul, Nat.reduceEqDiff, Nat.reduceLT, Nat.reduceLeDiff, Nat.reduceBEq, reduceIte, reduceCtorEq, Int.reduceToNat, Int.reduceLE, Int.reduceLT, Int.reduceBEq, Int.reduceBNe])) (divide_ok R ws (by omega)) ?_
  rintro _ _ hq
  unfold divQ at hq
  rcases hq with ⟨hq, _⟩ | ⟨_, hq, _⟩ | ⟨_, _, S, hpm, hasc, rfl, rfl⟩
  · exact absurd hvR hq
  · exact absurd hv hq
  refine ⟨.inl rfl, ?_⟩
  simp only [go_sem, Nat.reduceAdd, Nat.reduceSub, Nat.reduceMul, Nat.reduceEqDiff, Nat.reduceLT, Nat.reduceLeDiff, Nat.reduceBEq, reduceIte, reduceCtorEq, Int.reduceToNat, Int.reduceLE, Int.reduceLT, Int.reduceBEq, Int.reduceBNe]
  (refine Cl.frz [some 0] [ 1] rfl rfl (by simp only [go_sem, Nat.reduceAdd, Nat.reduceSub, Nat.reduceMul, Nat.reduceEqDiff, Nat.reduceLT, Nat.reduceLeDiff, Nat.reduceBEq, reduceIte, reduceCtorEq, Int.reduceToNat, Int.reduceLE, Int.reduceLT, Int.reduceBEq, Int.reduceBNe] <;> rfl) ?_; simp only [go_sem, Nat.reduceAdd, Nat.reduceSub, Nat.reduceMul, Nat.reduceEqDiff, Nat.reduceLT, Nat.reduceLeDiff, Nat.reduceBEq, reduceIte, reduceCtorEq, Int.reduceToNat, Int.reduceLE, Int.reduceLT, Int.reduceBEq, Int.reduceBNe])
  repeat (refine Cl.here ?_; simp only [go_sem, Nat.reduceAdd, Nat.reduceSub, Nat.reduceMul, Nat.reduceEqDiff, Nat.reduceLT, Nat.reduceLeDiff, Nat.reduceBEq, reduceIte, reduceCtorEq, Int.reduceToNat, Int.reduceLE, Int.reduceLT, Int.reduceBEq, Int.reduceBNe])
  refine callC_of [] [] (by simp) rfl (bindL_clean _ (by first | rfl | simp only [go_sem, Nat.reduceAdd, Nat.reduceSub, Nat.reduceMul, Nat.reduceEqDiff, Nat.reduceLT, Nat.reduceLeDiff, Nat.reduceBEq, reduceIte, reduceCtorEq, Int.reduceToNat, Int.reduceLE, Int.reduceLT, Int.reduceBEq, Int.reduceBNe])) (divide_ok R M (by omega)) ?_
  rintro _ _ hq
  unfold divQ at hq
  rcases hq with ⟨hq, _⟩ | ⟨_, hq, _⟩ | ⟨_, _, S2, hpm2, hasc2, rfl, rfl⟩
  · exact absurd hvR hq
  · exact absurd hvM hq
  refine ⟨.inl rfl, ?_⟩
  simp only [go_sem, Nat.reduceAdd, Nat.reduceSub, Nat.reduceMul, Nat.reduceEqDiff, Nat.reduceLT, Nat.reduceLeDiff, Nat.reduceBEq, reduceIte, reduceCtorEq, Int.reduceToNat, Int.reduceLE, Int.reduceLT, Int.reduceBEq, Int.reduceBNe]
  (refine Cl.frz [] [ 1] rfl rfl (by simp only [go_sem, Nat.reduceAdd, Nat.reduceSub, Nat.reduceMul, Nat.reduceEqDiff, Nat.reduceLT, Nat.reduceLeDiff, Nat.reduceBEq, reduceIte, reduceCtorEq, Int.reduceToNat, Int.reduceLE, Int.reduceLT, Int.reduceBEq, Int.reduceBNe] <;> rfl) ?_; simp only [go_sem, Nat.reduceAdd, Nat.reduceSub, Nat.reduceMul, Nat.reduceEqDiff, Nat.reduceLT, Nat.reduceLeDiff, Nat.reduceBEq, reduceIte, reduceCtorEq, Int.reduceToNat, Int.reduceLE, Int.reduceLT, Int.reduceBEq, Int.reduceBNe])
  have hwk := (spE_zero hv).2.2.1
  have hwk2 := (spE_zero hvM).2.2.1
  have hsum := (spE_zero hv).2.2.2.2
  have hvS : ∀ s ∈ S, ivP s.fr s.to := fun s hs => (flat_iv hwk s (hpm.mem_iff.1 hs)).1
  have hvS2 : ∀ s ∈ S2, ivP s.fr s.to := fun s hs => (flat_iv hwk2 s (hpm2.mem_iff.1 hs)).1
  have hee : mins S2 = mins S := by
    refine incr_eq (incr_mins hvS2 hasc2) (incr_mins hvS hasc) ?_
    exact (mins_perm hpm2).trans (hM.pm.trans ((mins_perm (flatS_perm hpt)).trans (mins_perm hpm.symm)))
  rw [hee]
  have hms : ((mins S).length : Int) = sumS (flatS ws) := by rw [mins_length hvS, sumS_perm hpm]
  have hpl := (run_bd R (mins S)).2.2
  have hpl2 : (run R (mins S)).ps.length ≤ 1000000 := by omega
  generalize (run R (mins S)).ps = ps at hpl2 ⊢
  repeat (refine Cl.here ?_; simp only [go_sem, Nat.reduceAdd, Nat.reduceSub, Nat.reduceMul, Nat.reduceEqDiff, Nat.reduceLT, Nat.reduceLeDiff, Nat.reduceBEq, reduceIte, reduceCtorEq, Int.reduceToNat, Int.reduceLE, Int.reduceLT, Int.reduceBEq, Int.reduceBNe])
  refine callC_det (same_ok ps hpl2) rfl rfl ?_
  try simp only [go_sem, Nat.reduceAdd, Nat.reduceSub, Nat.reduceMul, Nat.reduceEqDiff, Nat.reduceLT, Nat.reduceLeDiff, Nat.reduceBEq, reduceIte, reduceCtorEq, Int.reduceToNat, Int.reduceLE, Int.reduceLT, Int.reduceBEq, Int.reduceBNe]
  refine callC_det sane_ok rfl rfl ?_
  try simp only [go_sem, Nat.reduceAdd, Nat.reduceSub, Nat.reduceMul, Nat.reduceEqDiff, Nat.reduceLT, Nat.reduceLeDiff, Nat.reduceBEq, reduceIte, reduceCtorEq, Int.reduceToNat, Int.reduceLE, Int.reduceLT, Int.reduceBEq, Int.reduceBNe]
  repeat (refine Cl.here ?_; simp only [go_sem, Nat.reduceAdd, Nat.reduceSub, Nat.reduceMul, Nat.reduceEqDiff, Nat.reduceLT, Nat.reduceLeDiff, Nat.reduceBEq, reduceIte, reduceCtorEq, Int.reduceToNat, Int.reduceLE, Int.reduceLT, Int.reduceBEq, Int.reduceBNe])
  exact Cl.fin rfl rfl

end Go.Proofs.Ytodbafiepdcfbaa
