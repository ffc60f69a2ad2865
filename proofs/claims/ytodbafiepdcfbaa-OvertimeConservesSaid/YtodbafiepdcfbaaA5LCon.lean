/- OvertimeConserves: the walk. -/
import Derived.Test.YtodbafiepdcfbaaA5Sane
import Derived.Test.YtodbafiepdcfbaaA5Got
import Derived.Test.YtodbafiepdcfbaaA5Wks
import Derived.Test.YtodbafiepdcfbaaA5Bnd
import Derived.Test.YtodbafiepdcfbaaA5ConPl
set_option linter.unusedSimpArgs false
set_option linter.unusedVariables false
set_option linter.unusedSectionVars false
namespace Go.Proofs.Ytodbafiepdcfbaa
open Go Go.Abs
set_option linter.unusedSimpArgs false
set_option linter.unusedVariables false

theorem lenP_take {ps : List Pc} (h : ∀ p ∈ ps, p.fr < p.to) (j : Nat) : 0 ≤ lenP (ps.take j) ∧ lenP (ps.take j) ≤ lenP ps := by
  have h0 : ∀ l : List Pc, (∀ p ∈ l, p.fr < p.to) → 0 ≤ lenP l := by
    intro l
    induction l with
    | nil => intro _; simp [lenP]
    | cons p l ih =>
      intro h
      have a := ih fun x hx => h x (List.mem_cons_of_mem _ hx)
      have b := h p List.mem_cons_self
      simp only [lenP]
      omega
  have h1 := h0 (ps.take j) fun p hp => h p (List.mem_of_mem_take hp)
  have h2 := h0 (ps.drop j) fun p hp => h p (List.mem_of_mem_drop hp)
  have h3 : lenP ps = lenP (ps.take j) + lenP (ps.drop j) := by rw [← lenP_append, List.take_append_drop]
  omega
theorem lenP_take_succ {ps : List Pc} {j : Nat} (h : j < ps.length) : lenP (ps.take (j + 1)) = lenP (ps.take j) + (ps[j].to - ps[j].fr) := by
  rw [List.take_succ_eq_append_getElem h, lenP_append]
  simp [lenP]
theorem countP_take_succ {α : Type} {f : α → Bool} {ps : List α} {j : Nat} (h : j < ps.length) : (ps.take (j + 1)).countP f = (ps.take j).countP f + if f ps[j] then 1 else 0 := by
  rw [List.take_succ_eq_append_getElem h, List.countP_append]
  simp [List.countP_cons]

theorem overtimeConserves (l : List Int) (hl : TapeOk l) (n : Int) : AFn Try.prog 4 [.pure 1 (numsE .i64 l), .int .i64 n] [] (fun v _ => v = .bool true) := by
  refine afnW Try.func4 a4_ok (by simp [a4]) ?_
  simp only [go_sem, Nat.reduceAdd, Nat.reduceSub, Nat.reduceMul, Nat.reduceEqDiff, Nat.reduceLT, Nat.reduceLeDiff, Nat.reduceBEq, reduceIte, reduceCtorEq, Int.reduceToNat, Int.reduceLE, Int.reduceLT, Int.reduceBEq, Int.reduceBNe, a4, a4r0, a4r1, a4r2, a4r3, a4r4, a4r5, a4r6, a4r7, a4r8, a4r9, a4r10, a4r11, a4r12, a4r13, a4r14, a4r15, a4r16, a4r17, a4r18, a4r19, a4r20, a4r21, a4r22, a4r23, a4r24, a4r25, a4r26, a4r27, a4r28]
  repeat (refine Cl.here ?_; simp only [go_sem, Nat.reduceAdd, Nat.reduceSub, Nat.reduceMul, Nat.reduceEqDiff, Nat.reduceLT, Nat.reduceLeDiff, Nat.reduceBEq, reduceIte, reduceCtorEq, Int.reduceToNat, Int.reduceLE, Int.reduceLT, Int.reduceBEq, Int.reduceBNe])
  (refine callC_of [] [] (by simp) rfl (bindL_clean _ (by first | rfl | simp only [go_sem, Nat.reduceAdd, Nat.reduceSub, Nat.reduceMul, Nat.reduceEqDiff, Nat.reduceLT, Nat.reduceLeDiff, Nat.reduceBEq, reduceIte, reduceCtorEq, Int.reduceToNat, Int.reduceLE, Int.reduceLT, Int.reduceBEq, Int.reduceBNe])) (new_ok l) ?_; rintro _ _ ⟨rfl, rfl⟩; refine ⟨.inl rfl, ?_⟩; simp only [go_sem, Nat.reduceAdd, Nat.reduceSub, Nat.reduceMul, Nat.reduceEqDiff, Nat.reduceLT, Nat.reduceLeDiff, Nat.reduceBEq, reduceIte, reduceCtorEq, Int.reduceToNat, Int.reduceLE, Int.reduceLT, Int.reduceBEq, Int.reduceBNe])
  repeat (refine Cl.here ?_; simp only [go_sem, Nat.reduceAdd, Nat.reduceSub, Nat.reduceMul, Nat.reduceEqDiff, Nat.reduceLT, Nat.reduceLeDiff, Nat.reduceBEq, reduceIte, reduceCtorEq, Int.reduceToNat, Int.reduceLE, Int.reduceLT, Int.reduceBEq, Int.reduceBNe])
  (refine callC_of [0] [] (by decide) (by simp only [go_sem, Nat.reduceAdd, Nat.reduceSub, Nat.reduceMul, Nat.reduceEqDiff, Nat.reduceLT, Nat.reduceLeDiff, Nat.reduceBEq, reduceIte, reduceCtorEq, Int.reduceToNat, Int.reduceLE, Int.reduceLT, Int.reduceBEq, Int.reduceBNe] <;> rfl) (by simp only [go_sem, Nat.reduceAdd, Nat.reduceSub, Nat.reduceMul, Nat.reduceEqDiff, Nat.reduceLT, Nat.reduceLeDiff, Nat.reduceBEq, reduceIte, reduceCtorEq, Int.reduceToNat, Int.reduceLE, Int.reduceLT, Int.reduceBEq, Int.reduceBNe] <;> rfl) (bands_ok l hl 0 (by omega) (by omega)) ?_; rintro _ _ ⟨at_, R, rfl, rfl, h0, h1, hR⟩; refine ⟨.inl rfl, ?_⟩; simp only [go_sem, Nat.reduceAdd, Nat.reduceSub, Nat.reduceMul, Nat.reduceEqDiff, Nat.reduceLT, Nat.reduceLeDiff, Nat.reduceBEq, reduceIte, reduceCtorEq, Int.reduceToNat, Int.reduceLE, Int.reduceLT, Int.reduceBEq, Int.reduceBNe])
  unfold tp
  simp only [go_sem, Nat.reduceAdd, Nat.reduceSub, Nat.reduceMul, Nat.reduceEqDiff, Nat.reduceLT, Nat.reduceLeDiff, Nat.reduceBEq, reduceIte, reduceCtorEq, Int.reduceToNat, Int.reduceLE, Int.reduceLT, Int.reduceBEq, Int.reduceBNe]
  (refine callC_of [0] [] (by decide) (by simp only [go_sem, Nat.reduceAdd, Nat.reduceSub, Nat.reduceMul, Nat.reduceEqDiff, Nat.reduceLT, Nat.reduceLeDiff, Nat.reduceBEq, reduceIte, reduceCtorEq, Int.reduceToNat, Int.reduceLE, Int.reduceLT, Int.reduceBEq, Int.reduceBNe] <;> rfl) (by simp only [go_sem, Nat.reduceAdd, Nat.reduceSub, Nat.reduceMul, Nat.reduceEqDiff, Nat.reduceLT, Nat.reduceLeDiff, Nat.reduceBEq, reduceIte, reduceCtorEq, Int.reduceToNat, Int.reduceLE, Int.reduceLT, Int.reduceBEq, Int.reduceBNe] <;> rfl) (works_ok l hl 5 (by omega) (by omega) at_ h0 h1) ?_; rintro _ _ ⟨at_, ws, rfl, rfl, h0, h1, hn, hg, hdj⟩; refine ⟨.inl rfl, ?_⟩; simp only [go_sem, Nat.reduceAdd, Nat.reduceSub, Nat.reduceMul, Nat.reduceEqDiff, Nat.reduceLT, Nat.reduceLeDiff, Nat.reduceBEq, reduceIte, reduceCtorEq, Int.reduceToNat, Int.reduceLE, Int.reduceLT, Int.reduceBEq, Int.reduceBNe])
  unfold tp Rl.v
  simp only [go_sem, Nat.reduceAdd, Nat.reduceSub, Nat.reduceMul, Nat.reduceEqDiff, Nat.reduceLT, Nat.reduceLeDiff, Nat.reduceBEq, reduceIte, reduceCtorEq, Int.reduceToNat, Int.reduceLE, Int.reduceLT, Int.reduceBEq, Int.reduceBNe]
  have hlen : ws.length ≤ 5 := by omega
  (refine Cl.frz [some 0, some 2] [ 1] rfl rfl (by simp only [go_sem, Nat.reduceAdd, Nat.reduceSub, Nat.reduceMul, Nat.reduceEqDiff, Nat.reduceLT, Nat.reduceLeDiff, Nat.reduceBEq, reduceIte, reduceCtorEq, Int.reduceToNat, Int.reduceLE, Int.reduceLT, Int.reduceBEq, Int.reduceBNe] <;> rfl) ?_; simp only [go_sem, Nat.reduceAdd, Nat.reduceSub, Nat.reduceMul, Nat.reduceEqDiff, Nat.reduceLT, Nat.reduceLeDiff, Nat.reduceBEq, reduceIte, reduceCtorEq, Int.reduceToNat, Int.reduceLE, Int.reduceLT, Int.reduceBEq, Int.reduceBNe])
  have hv := mk_sp (by omega) hg hdj
  have hvR := rlOk_v hR
  (refine Cl.here ?_; simp only [go_sem, Nat.reduceAdd, Nat.reduceSub, Nat.reduceMul, Nat.reduceEqDiff, Nat.reduceLT, Nat.reduceLeDiff, Nat.reduceBEq, reduceIte, reduceCtorEq, Int.reduceToNat, Int.reduceLE, Int.reduceLT, Int.reduceBEq, Int.reduceBNe])
  refine callC_of [] [] (by simp) rfl (bindL_clean _ (by first | rfl | simp only [go_sem, Nat.reduceAdd, Nat.reduceSub, Nat.reduceMul, Nat.reduceEqDiff, Nat.reduceLT, Nat.reduceLeDiff, Nat.reduceBEq, reduceIte, reduceCtorEq, Int.reduceToNat, Int.reduceLE, Int.reduceLT, Int.reduceBEq, Int.reduceBNe])) (divide_ok R ws (by omega)) ?_
  rintro _ _ hq
  unfold divQ at hq
  rcases hq with ⟨hq, _⟩ | ⟨_, hq, _⟩ | ⟨_, _, S, hpm, hasc, rfl, rfl⟩
  · exact absurd hvR hq
  · exact absurd hv hq
  obtain ⟨_, _, hwk, _, hsum⟩ := spE_zero hv
  have hvS : ∀ s ∈ S, ivP s.fr s.to := fun s hs => (flat_iv hwk s (hpm.mem_iff.1 hs)).1
  have hinc := incr_mins hvS hasc
  have hG := run_good R (mins S) hinc
  have hms : ((mins S).length : Int) = sumS (flatS ws) := by rw [mins_length hvS, sumS_perm hpm]
  have hpl := (run_bd R (mins S)).2.2
  generalize (run R (mins S)).ps = ps at hG hpl ⊢
  have hlP : lenP ps = sumS (flatS ws) := by rw [hG.sum, hms]
  refine ⟨.inl rfl, ?_⟩
  simp only [go_sem, Nat.reduceAdd, Nat.reduceSub, Nat.reduceMul, Nat.reduceEqDiff, Nat.reduceLT, Nat.reduceLeDiff, Nat.reduceBEq, reduceIte, reduceCtorEq, Int.reduceToNat, Int.reduceLE, Int.reduceLT, Int.reduceBEq, Int.reduceBNe]
  (refine Cl.frz [some 0] [ 2] rfl rfl (by simp only [go_sem, Nat.reduceAdd, Nat.reduceSub, Nat.reduceMul, Nat.reduceEqDiff, Nat.reduceLT, Nat.reduceLeDiff, Nat.reduceBEq, reduceIte, reduceCtorEq, Int.reduceToNat, Int.reduceLE, Int.reduceLT, Int.reduceBEq, Int.reduceBNe] <;> rfl) ?_; simp only [go_sem, Nat.reduceAdd, Nat.reduceSub, Nat.reduceMul, Nat.reduceEqDiff, Nat.reduceLT, Nat.reduceLeDiff, Nat.reduceBEq, reduceIte, reduceCtorEq, Int.reduceToNat, Int.reduceLE, Int.reduceLT, Int.reduceBEq, Int.reduceBNe])
  repeat (refine Cl.here ?_; simp only [go_sem, Nat.reduceAdd, Nat.reduceSub, Nat.reduceMul, Nat.reduceEqDiff, Nat.reduceLT, Nat.reduceLeDiff, Nat.reduceBEq, reduceIte, reduceCtorEq, Int.reduceToNat, Int.reduceLE, Int.reduceLT, Int.reduceBEq, Int.reduceBNe])
  refine avcW_loop (fun env rows => ∃ i : Nat, i ≤ ws.length ∧ env = [(1, .int .i64 n), (5, .ref 0 1 0 0), (7, .pure 2 (els ws)), (8, .pure 4 (els ps)), (10, .int .i64 (sumS (flatS (ws.take i)))), (11, .int .i64 0), (12, .int .i64 i)] ∧ rows = [tapeRow 81 l at_])
    (fun env _ => match slot env 12 with | .int _ j => (ws.length - j).toNat | _ => 0) ?_ ?_
  · exact Cl.here ⟨0, by omega, rfl, rfl⟩
  rintro env rows ⟨i, hi, rfl, rfl⟩
  have hw1 : IntKind.i64.wrap ((i : Int) + 1) = ((i + 1 : Nat) : Int) := by rw [wrap_i64 (by omega) (by omega)]; omega
  simp only [go_sem, Nat.reduceAdd, Nat.reduceSub, Nat.reduceMul, Nat.reduceEqDiff, Nat.reduceLT, Nat.reduceLeDiff, Nat.reduceBEq, reduceIte, reduceCtorEq, Int.reduceToNat, Int.reduceLE, Int.reduceLT, Int.reduceBEq, Int.reduceBNe, a4, a4r0, a4r1, a4r2, a4r3, a4r4, a4r5, a4r6, a4r7, a4r8, a4r9, a4r10, a4r11, a4r12, a4r13, a4r14, a4r15, a4r16, a4r17, a4r18, a4r19, a4r20, a4r21, a4r22, a4r23, a4r24, a4r25, a4r26, a4r27, a4r28]
  repeat (refine Cl.here ?_; simp only [go_sem, Nat.reduceAdd, Nat.reduceSub, Nat.reduceMul, Nat.reduceEqDiff, Nat.reduceLT, Nat.reduceLeDiff, Nat.reduceBEq, reduceIte, reduceCtorEq, Int.reduceToNat, Int.reduceLE, Int.reduceLT, Int.reduceBEq, Int.reduceBNe])
  refine condW_intro ?_ ?_ <;> intro hg1 <;> simp only [decide_eq_true_eq, decide_eq_false_iff_not, beq_iff_eq, beq_eq_false_iff_ne, bne_iff_ne, bne_eq_false_iff_eq, Bool.not_eq_true', Bool.not_eq_false', Int.not_lt, Int.not_le, ne_eq, Bool.and_eq_true, Bool.or_eq_true, Bool.or_eq_false_iff, Bool.and_eq_false_iff] at hg1 <;> simp only [go_sem, Nat.reduceAdd, Nat.reduceSub, Nat.reduceMul, Nat.reduceEqDiff, Nat.reduceLT, Nat.reduceLeDiff, Nat.reduceBEq, reduceIte, reduceCtorEq, Int.reduceToNat, Int.reduceLE, Int.reduceLT, Int.reduceBEq, Int.reduceBNe, a4, a4r0, a4r1, a4r2, a4r3, a4r4, a4r5, a4r6, a4r7, a4r8, a4r9, a4r10, a4r11, a4r12, a4r13, a4r14, a4r15, a4r16, a4r17, a4r18, a4r19, a4r20, a4r21, a4r22, a4r23, a4r24, a4r25, a4r26, a4r27, a4r28]
  · have hlt : i < ws.length := by omega
    have hgj : (els ws).getD i [] = Cel.c ws[i] := els_getD hlt
    repeat (refine Cl.here ?_; simp only [go_sem, Nat.reduceAdd, Nat.reduceSub, Nat.reduceMul, Nat.reduceEqDiff, Nat.reduceLT, Nat.reduceLeDiff, Nat.reduceBEq, reduceIte, reduceCtorEq, Int.reduceToNat, Int.reduceLE, Int.reduceLT, Int.reduceBEq, Int.reduceBNe])
    have hj0 : (0 : Int) ≤ i := by omega
    have hj1 : (i : Int) < ws.length := by omega
    have hwi := hg ws[i] (List.getElem_mem hlt)
    have hwk' := hwk ws[i] (List.getElem_mem hlt)
    simp only [go_sem, Nat.reduceAdd, Nat.reduceSub, Nat.reduceMul, Nat.reduceEqDiff, Nat.reduceLT, Nat.reduceLeDiff, Nat.reduceBEq, reduceIte, reduceCtorEq, Int.reduceToNat, Int.reduceLE, Int.reduceLT, Int.reduceBEq, Int.reduceBNe, hj0, hj1, hgj, cel_wk]
    (refine callC_of [] [] (by simp) rfl (bindL_clean _ (by first | rfl | simp only [go_sem, Nat.reduceAdd, Nat.reduceSub, Nat.reduceMul, Nat.reduceEqDiff, Nat.reduceLT, Nat.reduceLeDiff, Nat.reduceBEq, reduceIte, reduceCtorEq, Int.reduceToNat, Int.reduceLE, Int.reduceLT, Int.reduceBEq, Int.reduceBNe])) (minutes_ok ws[i].iv (by have := hwi.2.1; omega)) ?_; rintro _ _ ⟨rfl, rfl⟩; refine ⟨.inl rfl, ?_⟩; simp only [go_sem, Nat.reduceAdd, Nat.reduceSub, Nat.reduceMul, Nat.reduceEqDiff, Nat.reduceLT, Nat.reduceLeDiff, Nat.reduceBEq, reduceIte, reduceCtorEq, Int.reduceToNat, Int.reduceLE, Int.reduceLT, Int.reduceBEq, Int.reduceBNe])
    have hs1 : sumS (flatS (ws.take (i + 1))) = sumS (flatS (ws.take i)) + mnI ws[i].iv := by
      rw [flatS_take hlt, sumS_append, mnI_flat hwk'.2]
    have hb1 : ∀ k, 0 ≤ sumS (flatS (ws.take k)) ∧ sumS (flatS (ws.take k)) ≤ 120968640 * 5120 := by
      intro k
      have a := sumS_bd (S := flatS (ws.take k)) fun s hs => (flat_iv (fun w hw => hwk w (List.mem_of_mem_take hw)) s hs).1
      have b := flatS_length (ws := ws.take k) fun w hw => by have := (hg w (List.mem_of_mem_take hw)).2.1; omega
      have c : (ws.take k).length ≤ 5 := by rw [List.length_take]; omega
      omega
    have hb2 := hb1 (i + 1)
    rw [wrap_i64 (by omega) (by omega), ← hs1]
    repeat (refine Cl.here ?_; simp only [go_sem, Nat.reduceAdd, Nat.reduceSub, Nat.reduceMul, Nat.reduceEqDiff, Nat.reduceLT, Nat.reduceLeDiff, Nat.reduceBEq, reduceIte, reduceCtorEq, Int.reduceToNat, Int.reduceLE, Int.reduceLT, Int.reduceBEq, Int.reduceBNe])
    simp only [go_sem, Nat.reduceAdd, Nat.reduceSub, Nat.reduceMul, Nat.reduceEqDiff, Nat.reduceLT, Nat.reduceLeDiff, Nat.reduceBEq, reduceIte, reduceCtorEq, Int.reduceToNat, Int.reduceLE, Int.reduceLT, Int.reduceBEq, Int.reduceBNe, hw1]
    exact ⟨⟨i + 1, by omega, rfl⟩, by omega⟩
  have hie : ws.take i = ws := List.take_of_length_le (by omega)
  rw [hie]
  generalize hT : sumS (flatS ws) = T at *
  repeat (refine Cl.here ?_; simp only [go_sem, Nat.reduceAdd, Nat.reduceSub, Nat.reduceMul, Nat.reduceEqDiff, Nat.reduceLT, Nat.reduceLeDiff, Nat.reduceBEq, reduceIte, reduceCtorEq, Int.reduceToNat, Int.reduceLE, Int.reduceLT, Int.reduceBEq, Int.reduceBNe])
  refine avcW_loop (fun env rows => ∃ i : Nat, i ≤ ps.length ∧ env = [(1, .int .i64 n), (5, .ref 0 1 0 0), (7, .pure 2 (els ws)), (8, .pure 4 (els ps)), (10, .int .i64 T), (11, .int .i64 (lenP (ps.take i))), (13, .int .i64 i)] ∧ rows = [tapeRow 81 l at_])
    (fun env _ => match slot env 13 with | .int _ j => (ps.length - j).toNat | _ => 0) ?_ ?_
  · exact Cl.here ⟨0, by omega, rfl, rfl⟩
  rintro env rows ⟨i, hi, rfl, rfl⟩
  have hw1 : IntKind.i64.wrap ((i : Int) + 1) = ((i + 1 : Nat) : Int) := by rw [wrap_i64 (by omega) (by omega)]; omega
  simp only [go_sem, Nat.reduceAdd, Nat.reduceSub, Nat.reduceMul, Nat.reduceEqDiff, Nat.reduceLT, Nat.reduceLeDiff, Nat.reduceBEq, reduceIte, reduceCtorEq, Int.reduceToNat, Int.reduceLE, Int.reduceLT, Int.reduceBEq, Int.reduceBNe, a4, a4r0, a4r1, a4r2, a4r3, a4r4, a4r5, a4r6, a4r7, a4r8, a4r9, a4r10, a4r11, a4r12, a4r13, a4r14, a4r15, a4r16, a4r17, a4r18, a4r19, a4r20, a4r21, a4r22, a4r23, a4r24, a4r25, a4r26, a4r27, a4r28]
  repeat (refine Cl.here ?_; simp only [go_sem, Nat.reduceAdd, Nat.reduceSub, Nat.reduceMul, Nat.reduceEqDiff, Nat.reduceLT, Nat.reduceLeDiff, Nat.reduceBEq, reduceIte, reduceCtorEq, Int.reduceToNat, Int.reduceLE, Int.reduceLT, Int.reduceBEq, Int.reduceBNe])
  refine condW_intro ?_ ?_ <;> intro hg1 <;> simp only [decide_eq_true_eq, decide_eq_false_iff_not, beq_iff_eq, beq_eq_false_iff_ne, bne_iff_ne, bne_eq_false_iff_eq, Bool.not_eq_true', Bool.not_eq_false', Int.not_lt, Int.not_le, ne_eq, Bool.and_eq_true, Bool.or_eq_true, Bool.or_eq_false_iff, Bool.and_eq_false_iff] at hg1 <;> simp only [go_sem, Nat.reduceAdd, Nat.reduceSub, Nat.reduceMul, Nat.reduceEqDiff, Nat.reduceLT, Nat.reduceLeDiff, Nat.reduceBEq, reduceIte, reduceCtorEq, Int.reduceToNat, Int.reduceLE, Int.reduceLT, Int.reduceBEq, Int.reduceBNe, a4, a4r0, a4r1, a4r2, a4r3, a4r4, a4r5, a4r6, a4r7, a4r8, a4r9, a4r10, a4r11, a4r12, a4r13, a4r14, a4r15, a4r16, a4r17, a4r18, a4r19, a4r20, a4r21, a4r22, a4r23, a4r24, a4r25, a4r26, a4r27, a4r28]
  · have hlt : i < ps.length := by omega
    have hgj : (els ps).getD i [] = Cel.c ps[i] := els_getD hlt
    repeat (refine Cl.here ?_; simp only [go_sem, Nat.reduceAdd, Nat.reduceSub, Nat.reduceMul, Nat.reduceEqDiff, Nat.reduceLT, Nat.reduceLeDiff, Nat.reduceBEq, reduceIte, reduceCtorEq, Int.reduceToNat, Int.reduceLE, Int.reduceLT, Int.reduceBEq, Int.reduceBNe])
    have hj0 : (0 : Int) ≤ i := by omega
    have hj1 : (i : Int) < ps.length := by omega
    have hp1 := hG.pos ps[i] (List.getElem_mem hlt)
    have hd1 : decide (ps[i].fr ≥ ps[i].to) = false := decide_eq_false (by omega)
    have hd1' : decide (ps[i].to ≤ ps[i].fr) = false := decide_eq_false (by omega)
    have h2 := lenP_take_succ hlt
    have h3 := lenP_take hG.pos i
    have h4 := lenP_take hG.pos (i + 1)
    rcases Nat.eq_zero_or_pos i with h00 | h00
    · have hd2 : decide ((0 : Int) < i) = false := decide_eq_false (by omega)
      simp only [go_sem, Nat.reduceAdd, Nat.reduceSub, Nat.reduceMul, Nat.reduceEqDiff, Nat.reduceLT, Nat.reduceLeDiff, Nat.reduceBEq, reduceIte, reduceCtorEq, Int.reduceToNat, Int.reduceLE, Int.reduceLT, Int.reduceBEq, Int.reduceBNe, hj0, hj1, hgj, cel_pc, hd1, hd1', hd2]
      repeat (refine Cl.here ?_; simp only [go_sem, Nat.reduceAdd, Nat.reduceSub, Nat.reduceMul, Nat.reduceEqDiff, Nat.reduceLT, Nat.reduceLeDiff, Nat.reduceBEq, reduceIte, reduceCtorEq, Int.reduceToNat, Int.reduceLE, Int.reduceLT, Int.reduceBEq, Int.reduceBNe])
      simp only [go_sem, Nat.reduceAdd, Nat.reduceSub, Nat.reduceMul, Nat.reduceEqDiff, Nat.reduceLT, Nat.reduceLeDiff, Nat.reduceBEq, reduceIte, reduceCtorEq, Int.reduceToNat, Int.reduceLE, Int.reduceLT, Int.reduceBEq, Int.reduceBNe, hj0, hj1, hgj, cel_pc]
      rw [wrap_i64 (x := ps[i].to - ps[i].fr) (by omega) (by omega), wrap_i64 (by omega) (by omega), ← h2]
      repeat (refine Cl.here ?_; simp only [go_sem, Nat.reduceAdd, Nat.reduceSub, Nat.reduceMul, Nat.reduceEqDiff, Nat.reduceLT, Nat.reduceLeDiff, Nat.reduceBEq, reduceIte, reduceCtorEq, Int.reduceToNat, Int.reduceLE, Int.reduceLT, Int.reduceBEq, Int.reduceBNe])
      simp only [go_sem, Nat.reduceAdd, Nat.reduceSub, Nat.reduceMul, Nat.reduceEqDiff, Nat.reduceLT, Nat.reduceLeDiff, Nat.reduceBEq, reduceIte, reduceCtorEq, Int.reduceToNat, Int.reduceLE, Int.reduceLT, Int.reduceBEq, Int.reduceBNe, hw1]
      exact ⟨⟨i + 1, by omega, rfl⟩, by omega⟩
    · obtain ⟨i, rfl⟩ : ∃ k, i = k + 1 := ⟨i - 1, by omega⟩
      have hd2 : decide ((0 : Int) < ((i + 1 : Nat) : Int)) = true := decide_eq_true (by omega)
      have hws : IntKind.i64.wrap (((i + 1 : Nat) : Int) - 1) = i := by rw [wrap_i64 (by omega) (by omega)]; omega
      have hk0 : (0 : Int) ≤ i := by omega
      have hk1 : (i : Int) < ps.length := by omega
      have hgk : (els ps).getD i [] = Cel.c ps[i] := els_getD (by omega)
      have ho := (List.pairwise_iff_getElem.1 hG.ord) i (i + 1) (by omega) hlt (by omega)
      have hd3 : decide (ps[i + 1].fr < ps[i].to) = false := decide_eq_false (by omega)
      simp only [go_sem, Nat.reduceAdd, Nat.reduceSub, Nat.reduceMul, Nat.reduceEqDiff, Nat.reduceLT, Nat.reduceLeDiff, Nat.reduceBEq, reduceIte, reduceCtorEq, Int.reduceToNat, Int.reduceLE, Int.reduceLT, Int.reduceBEq, Int.reduceBNe, hj0, hj1, hgj, cel_pc, hd1, hd1', hd2, hws, hk0, hk1, hgk, hd3]
      repeat (refine Cl.here ?_; simp only [go_sem, Nat.reduceAdd, Nat.reduceSub, Nat.reduceMul, Nat.reduceEqDiff, Nat.reduceLT, Nat.reduceLeDiff, Nat.reduceBEq, reduceIte, reduceCtorEq, Int.reduceToNat, Int.reduceLE, Int.reduceLT, Int.reduceBEq, Int.reduceBNe])
      simp only [go_sem, Nat.reduceAdd, Nat.reduceSub, Nat.reduceMul, Nat.reduceEqDiff, Nat.reduceLT, Nat.reduceLeDiff, Nat.reduceBEq, reduceIte, reduceCtorEq, Int.reduceToNat, Int.reduceLE, Int.reduceLT, Int.reduceBEq, Int.reduceBNe, hj0, hj1, hgj, cel_pc]
      rw [wrap_i64 (x := ps[i + 1].to - ps[i + 1].fr) (by omega) (by omega), wrap_i64 (by omega) (by omega), ← h2]
      repeat (refine Cl.here ?_; simp only [go_sem, Nat.reduceAdd, Nat.reduceSub, Nat.reduceMul, Nat.reduceEqDiff, Nat.reduceLT, Nat.reduceLeDiff, Nat.reduceBEq, reduceIte, reduceCtorEq, Int.reduceToNat, Int.reduceLE, Int.reduceLT, Int.reduceBEq, Int.reduceBNe])
      simp only [go_sem, Nat.reduceAdd, Nat.reduceSub, Nat.reduceMul, Nat.reduceEqDiff, Nat.reduceLT, Nat.reduceLeDiff, Nat.reduceBEq, reduceIte, reduceCtorEq, Int.reduceToNat, Int.reduceLE, Int.reduceLT, Int.reduceBEq, Int.reduceBNe, hw1]
      exact ⟨⟨i + 1 + 1, by omega, rfl⟩, by omega⟩
  have hie : ps.take i = ps := List.take_of_length_le (by omega)
  rw [hie, hlP]
  repeat (refine Cl.here ?_; simp only [go_sem, Nat.reduceAdd, Nat.reduceSub, Nat.reduceMul, Nat.reduceEqDiff, Nat.reduceLT, Nat.reduceLeDiff, Nat.reduceBEq, reduceIte, reduceCtorEq, Int.reduceToNat, Int.reduceLE, Int.reduceLT, Int.reduceBEq, Int.reduceBNe])
  rcases Nat.eq_zero_or_pos ws.length with hw0 | hw0
  · have hw : ws = [] := List.eq_nil_of_length_eq_zero hw0
    subst hw
    have hps : ps = [] := by
      have : sumS (flatS []) = 0 := rfl
      have : (mins S).length = 0 := by omega
      exact List.eq_nil_of_length_eq_zero (by omega)
    subst hps
    simp only [go_sem, Nat.reduceAdd, Nat.reduceSub, Nat.reduceMul, Nat.reduceEqDiff, Nat.reduceLT, Nat.reduceLeDiff, Nat.reduceBEq, reduceIte, reduceCtorEq, Int.reduceToNat, Int.reduceLE, Int.reduceLT, Int.reduceBEq, Int.reduceBNe]
    repeat (refine Cl.here ?_; simp only [go_sem, Nat.reduceAdd, Nat.reduceSub, Nat.reduceMul, Nat.reduceEqDiff, Nat.reduceLT, Nat.reduceLeDiff, Nat.reduceBEq, reduceIte, reduceCtorEq, Int.reduceToNat, Int.reduceLE, Int.reduceLT, Int.reduceBEq, Int.reduceBNe])
    refine callC_det sane_ok rfl rfl ?_
    simp only [go_sem, Nat.reduceAdd, Nat.reduceSub, Nat.reduceMul, Nat.reduceEqDiff, Nat.reduceLT, Nat.reduceLeDiff, Nat.reduceBEq, reduceIte, reduceCtorEq, Int.reduceToNat, Int.reduceLE, Int.reduceLT, Int.reduceBEq, Int.reduceBNe]
    repeat (refine Cl.here ?_; simp only [go_sem, Nat.reduceAdd, Nat.reduceSub, Nat.reduceMul, Nat.reduceEqDiff, Nat.reduceLT, Nat.reduceLeDiff, Nat.reduceBEq, reduceIte, reduceCtorEq, Int.reduceToNat, Int.reduceLE, Int.reduceLT, Int.reduceBEq, Int.reduceBNe])
    exact Cl.fin rfl rfl
  · have hd : ((ws.length : Int) == 0) = false := beq_eq_false_iff_ne.2 (by omega)
    simp only [go_sem, Nat.reduceAdd, Nat.reduceSub, Nat.reduceMul, Nat.reduceEqDiff, Nat.reduceLT, Nat.reduceLeDiff, Nat.reduceBEq, reduceIte, reduceCtorEq, Int.reduceToNat, Int.reduceLE, Int.reduceLT, Int.reduceBEq, Int.reduceBNe, hd]
    repeat (refine Cl.here ?_; simp only [go_sem, Nat.reduceAdd, Nat.reduceSub, Nat.reduceMul, Nat.reduceEqDiff, Nat.reduceLT, Nat.reduceLeDiff, Nat.reduceBEq, reduceIte, reduceCtorEq, Int.reduceToNat, Int.reduceLE, Int.reduceLT, Int.reduceBEq, Int.reduceBNe])
    refine callC_det (mod_ok n ws.length (by omega) (by omega)) rfl rfl ?_
    have hkm : 0 ≤ mod n ws.length ∧ mod n ws.length < ws.length := mod_bounds (by omega)
    generalize mod n ws.length = kk at hkm
    obtain ⟨k, rfl⟩ : ∃ k : Nat, kk = k := ⟨kk.toNat, by omega⟩
    have hk0 := hkm.1
    have hk1 := hkm.2
    have hkl : k < ws.length := by omega
    have hgk : (els ws).getD k [] = Cel.c ws[k] := els_getD hkl
    have hwm := List.getElem_mem hkl
    have hgw := hg _ hwm
    generalize hw : ws[k] = w at *
    simp only [go_sem, Nat.reduceAdd, Nat.reduceSub, Nat.reduceMul, Nat.reduceEqDiff, Nat.reduceLT, Nat.reduceLeDiff, Nat.reduceBEq, reduceIte, reduceCtorEq, Int.reduceToNat, Int.reduceLE, Int.reduceLT, Int.reduceBEq, Int.reduceBNe, hk0, hk1, hgk, cel_wk]
    (refine Cl.here ?_; simp only [go_sem, Nat.reduceAdd, Nat.reduceSub, Nat.reduceMul, Nat.reduceEqDiff, Nat.reduceLT, Nat.reduceLeDiff, Nat.reduceBEq, reduceIte, reduceCtorEq, Int.reduceToNat, Int.reduceLE, Int.reduceLT, Int.reduceBEq, Int.reduceBNe])
    have hz := hgw.1
    have hz2 := hgw.2.1
    (refine callD_tape (next_ok l hl w.iv.length (by omega)) (by simp only [go_sem, Nat.reduceAdd, Nat.reduceSub, Nat.reduceMul, Nat.reduceEqDiff, Nat.reduceLT, Nat.reduceLeDiff, Nat.reduceBEq, reduceIte, reduceCtorEq, Int.reduceToNat, Int.reduceLE, Int.reduceLT, Int.reduceBEq, Int.reduceBNe]) rfl rfl (by omega) (by omega) ?_; rintro _ at_ _ _ ⟨ c, rfl, _, _⟩; simp only [go_sem, Nat.reduceAdd, Nat.reduceSub, Nat.reduceMul, Nat.reduceEqDiff, Nat.reduceLT, Nat.reduceLeDiff, Nat.reduceBEq, reduceIte, reduceCtorEq, Int.reduceToNat, Int.reduceLE, Int.reduceLT, Int.reduceBEq, Int.reduceBNe])
    obtain ⟨c, rfl⟩ : ∃ k : Nat, c = k := ⟨c.toNat, by omega⟩
    have hc0 : (0 : Int) ≤ c := by omega
    have hc1 : (c : Int) < w.iv.length := by omega
    have hcl : c < w.iv.length := by omega
    have hgc : (els w.iv).getD c [] = Cel.c w.iv[c] := els_getD hcl
    have hiv := hgw.2.2.2.2 _ (List.getElem_mem hcl)
    have hmem0 := List.getElem_mem hcl
    generalize hv0 : w.iv[c] = v at *
    simp only [go_sem, Nat.reduceAdd, Nat.reduceSub, Nat.reduceMul, Nat.reduceEqDiff, Nat.reduceLT, Nat.reduceLeDiff, Nat.reduceBEq, reduceIte, reduceCtorEq, Int.reduceToNat, Int.reduceLE, Int.reduceLT, Int.reduceBEq, Int.reduceBNe, hc0, hc1, hgc, cel_iv]
    (refine Cl.here ?_; simp only [go_sem, Nat.reduceAdd, Nat.reduceSub, Nat.reduceMul, Nat.reduceEqDiff, Nat.reduceLT, Nat.reduceLeDiff, Nat.reduceBEq, reduceIte, reduceCtorEq, Int.reduceToNat, Int.reduceLE, Int.reduceLT, Int.reduceBEq, Int.reduceBNe])
    rw [wrap_i64 (x := v.to - v.fr) (by omega) (by omega)]
    (refine callD_tape (next_ok l hl (v.to - v.fr) (by omega)) (by simp only [go_sem, Nat.reduceAdd, Nat.reduceSub, Nat.reduceMul, Nat.reduceEqDiff, Nat.reduceLT, Nat.reduceLeDiff, Nat.reduceBEq, reduceIte, reduceCtorEq, Int.reduceToNat, Int.reduceLE, Int.reduceLT, Int.reduceBEq, Int.reduceBNe]) rfl rfl (by omega) (by omega) ?_; rintro _ at_ _ _ ⟨ u, rfl, _, _⟩; simp only [go_sem, Nat.reduceAdd, Nat.reduceSub, Nat.reduceMul, Nat.reduceEqDiff, Nat.reduceLT, Nat.reduceLeDiff, Nat.reduceBEq, reduceIte, reduceCtorEq, Int.reduceToNat, Int.reduceLE, Int.reduceLT, Int.reduceBEq, Int.reduceBNe])
    rw [wrap_i64 (by omega) (by omega)]
    have hu : v.fr ≤ v.fr + u ∧ v.fr + u < v.to := by omega
    generalize v.fr + u = m at hu
    have hone : ps.countP (hasP m w.day) = 1 := by
      rw [hG.cnt]
      refine count_one hinc ((mem_mins hvS).2 ⟨⟨w.day, v.fr, v.to⟩, hpm.mem_iff.2 (mem_flatS.2 ⟨w, hwm, v, hmem0, rfl⟩), rfl, hu.1, hu.2⟩)
    (refine Cl.here ?_; simp only [go_sem, Nat.reduceAdd, Nat.reduceSub, Nat.reduceMul, Nat.reduceEqDiff, Nat.reduceLT, Nat.reduceLeDiff, Nat.reduceBEq, reduceIte, reduceCtorEq, Int.reduceToNat, Int.reduceLE, Int.reduceLT, Int.reduceBEq, Int.reduceBNe])
    (refine Cl.tr [some 1] [] rfl rfl (by simp only [go_sem, Nat.reduceAdd, Nat.reduceSub, Nat.reduceMul, Nat.reduceEqDiff, Nat.reduceLT, Nat.reduceLeDiff, Nat.reduceBEq, reduceIte, reduceCtorEq, Int.reduceToNat, Int.reduceLE, Int.reduceLT, Int.reduceBEq, Int.reduceBNe] <;> rfl) ?_; simp only [go_sem, Nat.reduceAdd, Nat.reduceSub, Nat.reduceMul, Nat.reduceEqDiff, Nat.reduceLT, Nat.reduceLeDiff, Nat.reduceBEq, reduceIte, reduceCtorEq, Int.reduceToNat, Int.reduceLE, Int.reduceLT, Int.reduceBEq, Int.reduceBNe])
    repeat (refine Cl.here ?_; simp only [go_sem, Nat.reduceAdd, Nat.reduceSub, Nat.reduceMul, Nat.reduceEqDiff, Nat.reduceLT, Nat.reduceLeDiff, Nat.reduceBEq, reduceIte, reduceCtorEq, Int.reduceToNat, Int.reduceLE, Int.reduceLT, Int.reduceBEq, Int.reduceBNe])
    refine avcW_loop (fun env rows => ∃ i : Nat, i ≤ ps.length ∧ env = [(8, .pure 4 (els ps)), (10, .int .i64 T), (11, .int .i64 T), (14, .ref 0 1 0 0), (16, .int .i64 m), (17, .int .i64 ((ps.take i).countP (hasP m w.day))), (18, .int .i64 i)] ∧ rows = [.live 46 2 [[.int .i64 w.day, .pure 2 (els w.iv)]]])
      (fun env _ => match slot env 18 with | .int _ j => (ps.length - j).toNat | _ => 0) ?_ ?_
    · exact Cl.here ⟨0, by omega, rfl, rfl⟩
    rintro env rows ⟨i, hi, rfl, rfl⟩
    have hw1 : IntKind.i64.wrap ((i : Int) + 1) = ((i + 1 : Nat) : Int) := by rw [wrap_i64 (by omega) (by omega)]; omega
    simp only [go_sem, Nat.reduceAdd, Nat.reduceSub, Nat.reduceMul, Nat.reduceEqDiff, Nat.reduceLT, Nat.reduceLeDiff, Nat.reduceBEq, reduceIte, reduceCtorEq, Int.reduceToNat, Int.reduceLE, Int.reduceLT, Int.reduceBEq, Int.reduceBNe, a4, a4r0, a4r1, a4r2, a4r3, a4r4, a4r5, a4r6, a4r7, a4r8, a4r9, a4r10, a4r11, a4r12, a4r13, a4r14, a4r15, a4r16, a4r17, a4r18, a4r19, a4r20, a4r21, a4r22, a4r23, a4r24, a4r25, a4r26, a4r27, a4r28]
    repeat (refine Cl.here ?_; simp only [go_sem, Nat.reduceAdd, Nat.reduceSub, Nat.reduceMul, Nat.reduceEqDiff, Nat.reduceLT, Nat.reduceLeDiff, Nat.reduceBEq, reduceIte, reduceCtorEq, Int.reduceToNat, Int.reduceLE, Int.reduceLT, Int.reduceBEq, Int.reduceBNe])
    refine condW_intro ?_ ?_ <;> intro hg1 <;> simp only [decide_eq_true_eq, decide_eq_false_iff_not, beq_iff_eq, beq_eq_false_iff_ne, bne_iff_ne, bne_eq_false_iff_eq, Bool.not_eq_true', Bool.not_eq_false', Int.not_lt, Int.not_le, ne_eq, Bool.and_eq_true, Bool.or_eq_true, Bool.or_eq_false_iff, Bool.and_eq_false_iff] at hg1 <;> simp only [go_sem, Nat.reduceAdd, Nat.reduceSub, Nat.reduceMul, Nat.reduceEqDiff, Nat.reduceLT, Nat.reduceLeDiff, Nat.reduceBEq, reduceIte, reduceCtorEq, Int.reduceToNat, Int.reduceLE, Int.reduceLT, Int.reduceBEq, Int.reduceBNe, a4, a4r0, a4r1, a4r2, a4r3, a4r4, a4r5, a4r6, a4r7, a4r8, a4r9, a4r10, a4r11, a4r12, a4r13, a4r14, a4r15, a4r16, a4r17, a4r18, a4r19, a4r20, a4r21, a4r22, a4r23, a4r24, a4r25, a4r26, a4r27, a4r28]
    · have hlt : i < ps.length := by omega
      have hgj : (els ps).getD i [] = Cel.c ps[i] := els_getD hlt
      repeat (refine Cl.here ?_; simp only [go_sem, Nat.reduceAdd, Nat.reduceSub, Nat.reduceMul, Nat.reduceEqDiff, Nat.reduceLT, Nat.reduceLeDiff, Nat.reduceBEq, reduceIte, reduceCtorEq, Int.reduceToNat, Int.reduceLE, Int.reduceLT, Int.reduceBEq, Int.reduceBNe])
      have hj0 : (0 : Int) ≤ i := by omega
      have hj1 : (i : Int) < ps.length := by omega
      have hct := countP_take_succ (f := hasP m w.day) hlt
      have hcb : (ps.take i).countP (hasP m w.day) ≤ i := Nat.le_trans List.countP_le_length (by rw [List.length_take]; omega)
      have hwc : IntKind.i64.wrap ((((ps.take i).countP (hasP m w.day) : Nat) : Int) + 1) = (((ps.take i).countP (hasP m w.day) + 1 : Nat) : Int) := by rw [wrap_i64 (by omega) (by omega)]; omega
      by_cases c1 : ps[i].fr ≤ m
      · have b1 : decide (ps[i].fr ≤ m) = true := decide_eq_true c1
        by_cases c2 : m < ps[i].to
        · have b2 : decide (m < ps[i].to) = true := decide_eq_true c2
          by_cases c3 : ps[i].day = w.day
          · have b3 : (ps[i].day == w.day) = true := beq_iff_eq.2 c3
            have hh : hasP m w.day ps[i] = true := decide_eq_true ⟨c1, c2, c3⟩
            rw [hh, if_pos rfl] at hct
            simp only [go_sem, Nat.reduceAdd, Nat.reduceSub, Nat.reduceMul, Nat.reduceEqDiff, Nat.reduceLT, Nat.reduceLeDiff, Nat.reduceBEq, reduceIte, reduceCtorEq, Int.reduceToNat, Int.reduceLE, Int.reduceLT, Int.reduceBEq, Int.reduceBNe, hj0, hj1, hgj, cel_pc, b1, b2, b3]
            repeat (refine Cl.here ?_; simp only [go_sem, Nat.reduceAdd, Nat.reduceSub, Nat.reduceMul, Nat.reduceEqDiff, Nat.reduceLT, Nat.reduceLeDiff, Nat.reduceBEq, reduceIte, reduceCtorEq, Int.reduceToNat, Int.reduceLE, Int.reduceLT, Int.reduceBEq, Int.reduceBNe])
            simp only [go_sem, Nat.reduceAdd, Nat.reduceSub, Nat.reduceMul, Nat.reduceEqDiff, Nat.reduceLT, Nat.reduceLeDiff, Nat.reduceBEq, reduceIte, reduceCtorEq, Int.reduceToNat, Int.reduceLE, Int.reduceLT, Int.reduceBEq, Int.reduceBNe, hw1, hwc, ← hct]
            exact ⟨⟨i + 1, by omega, rfl⟩, by omega⟩
          · have b3 : (ps[i].day == w.day) = false := beq_eq_false_iff_ne.2 c3
            have hh : hasP m w.day ps[i] = false := decide_eq_false fun h => c3 h.2.2
            rw [hh] at hct
            simp only [go_sem, Nat.reduceAdd, Nat.reduceSub, Nat.reduceMul, Nat.reduceEqDiff, Nat.reduceLT, Nat.reduceLeDiff, Nat.reduceBEq, reduceIte, reduceCtorEq, Int.reduceToNat, Int.reduceLE, Int.reduceLT, Int.reduceBEq, Int.reduceBNe, hj0, hj1, hgj, cel_pc, b1, b2, b3]
            repeat (refine Cl.here ?_; simp only [go_sem, Nat.reduceAdd, Nat.reduceSub, Nat.reduceMul, Nat.reduceEqDiff, Nat.reduceLT, Nat.reduceLeDiff, Nat.reduceBEq, reduceIte, reduceCtorEq, Int.reduceToNat, Int.reduceLE, Int.reduceLT, Int.reduceBEq, Int.reduceBNe])
            simp only [go_sem, Nat.reduceAdd, Nat.reduceSub, Nat.reduceMul, Nat.reduceEqDiff, Nat.reduceLT, Nat.reduceLeDiff, Nat.reduceBEq, reduceIte, reduceCtorEq, Int.reduceToNat, Int.reduceLE, Int.reduceLT, Int.reduceBEq, Int.reduceBNe, hw1]
            exact ⟨⟨i + 1, by omega, by rw [hct]; rfl⟩, by omega⟩
        · have b2 : decide (m < ps[i].to) = false := decide_eq_false c2
          have hh : hasP m w.day ps[i] = false := decide_eq_false fun h => c2 h.2.1
          rw [hh] at hct
          simp only [go_sem, Nat.reduceAdd, Nat.reduceSub, Nat.reduceMul, Nat.reduceEqDiff, Nat.reduceLT, Nat.reduceLeDiff, Nat.reduceBEq, reduceIte, reduceCtorEq, Int.reduceToNat, Int.reduceLE, Int.reduceLT, Int.reduceBEq, Int.reduceBNe, hj0, hj1, hgj, cel_pc, b1, b2]
          repeat (refine Cl.here ?_; simp only [go_sem, Nat.reduceAdd, Nat.reduceSub, Nat.reduceMul, Nat.reduceEqDiff, Nat.reduceLT, Nat.reduceLeDiff, Nat.reduceBEq, reduceIte, reduceCtorEq, Int.reduceToNat, Int.reduceLE, Int.reduceLT, Int.reduceBEq, Int.reduceBNe])
          simp only [go_sem, Nat.reduceAdd, Nat.reduceSub, Nat.reduceMul, Nat.reduceEqDiff, Nat.reduceLT, Nat.reduceLeDiff, Nat.reduceBEq, reduceIte, reduceCtorEq, Int.reduceToNat, Int.reduceLE, Int.reduceLT, Int.reduceBEq, Int.reduceBNe, hw1]
          exact ⟨⟨i + 1, by omega, by rw [hct]; rfl⟩, by omega⟩
      · have b1 : decide (ps[i].fr ≤ m) = false := decide_eq_false c1
        have hh : hasP m w.day ps[i] = false := decide_eq_false fun h => c1 h.1
        rw [hh] at hct
        simp only [go_sem, Nat.reduceAdd, Nat.reduceSub, Nat.reduceMul, Nat.reduceEqDiff, Nat.reduceLT, Nat.reduceLeDiff, Nat.reduceBEq, reduceIte, reduceCtorEq, Int.reduceToNat, Int.reduceLE, Int.reduceLT, Int.reduceBEq, Int.reduceBNe, hj0, hj1, hgj, cel_pc, b1]
        repeat (refine Cl.here ?_; simp only [go_sem, Nat.reduceAdd, Nat.reduceSub, Nat.reduceMul, Nat.reduceEqDiff, Nat.reduceLT, Nat.reduceLeDiff, Nat.reduceBEq, reduceIte, reduceCtorEq, Int.reduceToNat, Int.reduceLE, Int.reduceLT, Int.reduceBEq, Int.reduceBNe])
        simp only [go_sem, Nat.reduceAdd, Nat.reduceSub, Nat.reduceMul, Nat.reduceEqDiff, Nat.reduceLT, Nat.reduceLeDiff, Nat.reduceBEq, reduceIte, reduceCtorEq, Int.reduceToNat, Int.reduceLE, Int.reduceLT, Int.reduceBEq, Int.reduceBNe, hw1]
        exact ⟨⟨i + 1, by omega, by rw [hct]; rfl⟩, by omega⟩
    have hie : ps.take i = ps := List.take_of_length_le (by omega)
    rw [hie, hone]
    repeat (refine Cl.here ?_; simp only [go_sem, Nat.reduceAdd, Nat.reduceSub, Nat.reduceMul, Nat.reduceEqDiff, Nat.reduceLT, Nat.reduceLeDiff, Nat.reduceBEq, reduceIte, reduceCtorEq, Int.reduceToNat, Int.reduceLE, Int.reduceLT, Int.reduceBEq, Int.reduceBNe])
    try simp only [go_sem, Nat.reduceAdd, Nat.reduceSub, Nat.reduceMul, Nat.reduceEqDiff, Nat.reduceLT, Nat.reduceLeDiff, Nat.reduceBEq, reduceIte, reduceCtorEq, Int.reduceToNat, Int.reduceLE, Int.reduceLT, Int.reduceBEq, Int.reduceBNe, beq_self_eq_true]
    refine callC_det sane_ok rfl rfl ?_
    try simp only [go_sem, Nat.reduceAdd, Nat.reduceSub, Nat.reduceMul, Nat.reduceEqDiff, Nat.reduceLT, Nat.reduceLeDiff, Nat.reduceBEq, reduceIte, reduceCtorEq, Int.reduceToNat, Int.reduceLE, Int.reduceLT, Int.reduceBEq, Int.reduceBNe]
    repeat (refine Cl.here ?_; simp only [go_sem, Nat.reduceAdd, Nat.reduceSub, Nat.reduceMul, Nat.reduceEqDiff, Nat.reduceLT, Nat.reduceLeDiff, Nat.reduceBEq, reduceIte, reduceCtorEq, Int.reduceToNat, Int.reduceLE, Int.reduceLT, Int.reduceBEq, Int.reduceBNe])
    exact Cl.fin rfl rfl

end Go.Proofs.Ytodbafiepdcfbaa
