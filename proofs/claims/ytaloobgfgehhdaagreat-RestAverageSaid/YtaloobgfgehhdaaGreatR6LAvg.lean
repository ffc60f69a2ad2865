/- RestAverage: the walk. -/
import Derived.Test.YtaloobgfgehhdaaGreatR6Rst6
import Derived.Test.YtaloobgfgehhdaaGreatR5Bnd
set_option linter.unusedSimpArgs false
set_option linter.unusedVariables false
set_option linter.unusedSectionVars false
namespace Go.Proofs.YtaloobgfgehhdaaGreat
open Go Go.Abs
set_option linter.unusedSimpArgs false
set_option linter.unusedVariables false

theorem monday_ok (d : Int) (h0 : 0 ≤ d) (h1 : d ≤ 1000000) : AFn Tryz.prog 12 [.int .i64 d] [] (fun v rs => v = .int .i64 (mon d) ∧ rs = []) := by
  refine afn Tryz.func12 a12_ok (by simp [a12]) ?_
  simp only [go_sem, Nat.reduceAdd, Nat.reduceSub, Nat.reduceMul, Nat.reduceEqDiff, Nat.reduceLT, Nat.reduceLeDiff, Nat.reduceBEq, reduceIte, reduceCtorEq, Int.reduceToNat, Int.reduceLE, Int.reduceLT, Int.reduceBEq, Int.reduceBNe, a12, a12r0, a12r1]
  have e1 : (d + 3).tmod 7 = (d + 3) % 7 := Int.tmod_eq_emod_of_nonneg (by omega)
  rw [wrap_i64 (x := d + 3) (by omega) (by omega)]
  refine ⟨by decide, ?_⟩
  rw [e1, wrap_i64 (by omega) (by omega)]
  exact Cl.fin rfl ⟨rfl, rfl⟩
theorem avF_append {A B : List Spn} {m : Int} : avF (A ++ B) m = avF A m + avF B m := by
  unfold avF
  rw [List.filter_append, sumS_append]
theorem avF_flatW {d : Int} {m : Int} : ∀ {iv : List Iv}, (∀ v ∈ iv, ivP v.fr v.to) → avF (flatW ⟨d, iv⟩) m = if mon d = m then mnI iv else 0
  | [], _ => by simp [flatW, avF, sumS, mnI]
  | v :: iv, h => by
    have ih := avF_flatW (d := d) (m := m) (iv := iv) fun x hx => h x (List.mem_cons_of_mem _ hx)
    have h1 : flatW ⟨d, v :: iv⟩ = [⟨d, v.fr, v.to⟩] ++ flatW ⟨d, iv⟩ := rfl
    rw [h1, avF_append, ih, mnI, if_pos (h v List.mem_cons_self)]
    unfold avF
    by_cases hm : mon d = m <;> simp [hm, sumS]
theorem avF_take {ws : List Wk} (he : spE ws = 0) {i : Nat} (h : i < ws.length) (m : Int) : avF (flatS (ws.take (i + 1))) m = avF (flatS (ws.take i)) m + if mon ws[i].day = m then mnI ws[i].iv else 0 := by
  rw [flatS_take h, avF_append]
  congr 1
  exact avF_flatW ((spE_zero he).2.2.1 _ (List.getElem_mem h)).2
theorem mds5 : mds 20444 20478 = mdL 20444 5 := by kernel_rfl
theorem mdL5 {k : Nat} (h : k < 5) : (mdL 20444 5).drop k = (20444 + 7 * (k : Int)) :: (mdL 20444 5).drop (k + 1) := by
  rw [List.drop_eq_getElem_cons (by rw [mdL_length]; exact h)]
  congr 1
  simp [mdL]
instance : DecidableEq Br := fun a b => by
  cases a; cases b
  simp only [Br.mk.injEq]
  infer_instance
theorem eqBr {a b : Br} : eqCells [.int .i64 a.kind, .int .i64 a.day, .int .i64 a.min] [.int .i64 b.kind, .int .i64 b.day, .int .i64 b.min] = decide (a = b) := by
  cases a; cases b
  simp only [eqCells, Br.mk.injEq]
  rw [Bool.eq_iff_iff]
  simp

set_option maxHeartbeats 2000000 in
theorem restAverage (l : List Int) (hl : TapeOk l) (n : Int) : AFn Tryz.prog 4 [.pure 1 (numsE .i64 l), .int .i64 n] [] (fun v _ => v = .bool true) := by
  refine afnW Tryz.func4 a4_ok (by simp [a4]) ?_
  simp only [go_sem, Nat.reduceAdd, Nat.reduceSub, Nat.reduceMul, Nat.reduceEqDiff, Nat.reduceLT, Nat.reduceLeDiff, Nat.reduceBEq, reduceIte, reduceCtorEq, Int.reduceToNat, Int.reduceLE, Int.reduceLT, Int.reduceBEq, Int.reduceBNe, a4, a4r0, a4r1, a4r2, a4r3, a4r4, a4r5, a4r6, a4r7, a4r8, a4r9, a4r10, a4r11, a4r12, a4r13, a4r14, a4r15, a4r16, a4r17, a4r18, a4r19, a4r20, a4r21, a4r22]
  repeat (refine Cl.here ?_; simp only [go_sem, Nat.reduceAdd, Nat.reduceSub, Nat.reduceMul, Nat.reduceEqDiff, Nat.reduceLT, Nat.reduceLeDiff, Nat.reduceBEq, reduceIte, reduceCtorEq, Int.reduceToNat, Int.reduceLE, Int.reduceLT, Int.reduceBEq, Int.reduceBNe])
  (refine callC_of [] [] (by simp) rfl (bindL_clean _ (by first | rfl | simp only [go_sem, Nat.reduceAdd, Nat.reduceSub, Nat.reduceMul, Nat.reduceEqDiff, Nat.reduceLT, Nat.reduceLeDiff, Nat.reduceBEq, reduceIte, reduceCtorEq, Int.reduceToNat, Int.reduceLE, Int.reduceLT, Int.reduceBEq, Int.reduceBNe])) (new_ok l) ?_; rintro _ _ ⟨rfl, rfl⟩; refine ⟨.inl rfl, ?_⟩; simp only [go_sem, Nat.reduceAdd, Nat.reduceSub, Nat.reduceMul, Nat.reduceEqDiff, Nat.reduceLT, Nat.reduceLeDiff, Nat.reduceBEq, reduceIte, reduceCtorEq, Int.reduceToNat, Int.reduceLE, Int.reduceLT, Int.reduceBEq, Int.reduceBNe])
  repeat (refine Cl.here ?_; simp only [go_sem, Nat.reduceAdd, Nat.reduceSub, Nat.reduceMul, Nat.reduceEqDiff, Nat.reduceLT, Nat.reduceLeDiff, Nat.reduceBEq, reduceIte, reduceCtorEq, Int.reduceToNat, Int.reduceLE, Int.reduceLT, Int.reduceBEq, Int.reduceBNe])
  (refine callC_of [0] [] (by decide) (by simp only [go_sem, Nat.reduceAdd, Nat.reduceSub, Nat.reduceMul, Nat.reduceEqDiff, Nat.reduceLT, Nat.reduceLeDiff, Nat.reduceBEq, reduceIte, reduceCtorEq, Int.reduceToNat, Int.reduceLE, Int.reduceLT, Int.reduceBEq, Int.reduceBNe] <;> rfl) (by simp only [go_sem, Nat.reduceAdd, Nat.reduceSub, Nat.reduceMul, Nat.reduceEqDiff, Nat.reduceLT, Nat.reduceLeDiff, Nat.reduceBEq, reduceIte, reduceCtorEq, Int.reduceToNat, Int.reduceLE, Int.reduceLT, Int.reduceBEq, Int.reduceBNe] <;> rfl) (works_ok l hl 6 (by omega) (by omega) 0 (by omega) (by omega)) ?_; rintro _ _ ⟨at_, ws, rfl, rfl, h0, h1, hn, hg, hdj⟩; refine ⟨.inl rfl, ?_⟩; simp only [go_sem, Nat.reduceAdd, Nat.reduceSub, Nat.reduceMul, Nat.reduceEqDiff, Nat.reduceLT, Nat.reduceLeDiff, Nat.reduceBEq, reduceIte, reduceCtorEq, Int.reduceToNat, Int.reduceLE, Int.reduceLT, Int.reduceBEq, Int.reduceBNe])
  unfold tp
  simp only [go_sem, Nat.reduceAdd, Nat.reduceSub, Nat.reduceMul, Nat.reduceEqDiff, Nat.reduceLT, Nat.reduceLeDiff, Nat.reduceBEq, reduceIte, reduceCtorEq, Int.reduceToNat, Int.reduceLE, Int.reduceLT, Int.reduceBEq, Int.reduceBNe]
  have hv := mk_sp (by omega) hg hdj
  have hwd : ∀ w ∈ ws, 20000 ≤ w.day ∧ w.day ≤ 30000 ∧ w.iv.length ≤ 2 := fun w hw => by have := hg w hw; unfold wkG at this; omega
  (refine Cl.frz [] [ 1] rfl rfl (by simp only [go_sem, Nat.reduceAdd, Nat.reduceSub, Nat.reduceMul, Nat.reduceEqDiff, Nat.reduceLT, Nat.reduceLeDiff, Nat.reduceBEq, reduceIte, reduceCtorEq, Int.reduceToNat, Int.reduceLE, Int.reduceLT, Int.reduceBEq, Int.reduceBNe] <;> rfl) ?_; simp only [go_sem, Nat.reduceAdd, Nat.reduceSub, Nat.reduceMul, Nat.reduceEqDiff, Nat.reduceLT, Nat.reduceLeDiff, Nat.reduceBEq, reduceIte, reduceCtorEq, Int.reduceToNat, Int.reduceLE, Int.reduceLT, Int.reduceBEq, Int.reduceBNe])
  have hb := mod_bounds (v := n) (n := 1500) (by omega)
  repeat (refine Cl.here ?_; simp only [go_sem, Nat.reduceAdd, Nat.reduceSub, Nat.reduceMul, Nat.reduceEqDiff, Nat.reduceLT, Nat.reduceLeDiff, Nat.reduceBEq, reduceIte, reduceCtorEq, Int.reduceToNat, Int.reduceLE, Int.reduceLT, Int.reduceBEq, Int.reduceBNe])
  refine callC_det (mod_ok n 1500 (by omega) (by omega)) rfl rfl ?_
  generalize mod n 1500 = y at hb ⊢
  simp only [go_sem, Nat.reduceAdd, Nat.reduceSub, Nat.reduceMul, Nat.reduceEqDiff, Nat.reduceLT, Nat.reduceLeDiff, Nat.reduceBEq, reduceIte, reduceCtorEq, Int.reduceToNat, Int.reduceLE, Int.reduceLT, Int.reduceBEq, Int.reduceBNe]
  rw [wrap_i64 (x := 1 + y) (by omega) (by omega)]
  obtain ⟨a, ha⟩ : ∃ a, a = 1 + y := ⟨_, rfl⟩
  rw [← ha]
  repeat (refine Cl.here ?_; simp only [go_sem, Nat.reduceAdd, Nat.reduceSub, Nat.reduceMul, Nat.reduceEqDiff, Nat.reduceLT, Nat.reduceLeDiff, Nat.reduceBEq, reduceIte, reduceCtorEq, Int.reduceToNat, Int.reduceLE, Int.reduceLT, Int.reduceBEq, Int.reduceBNe])
  refine callC_det (monday_ok 20454 (by omega) (by omega)) rfl rfl ?_
  have hm0 : IntKind.i64.wrap (mon 20454 - 7) = 20444 := rfl
  have hm1 : IntKind.i64.wrap (20444 + 34) = 20478 := rfl
  (repeat (first | (refine Cl.here ?_; simp only [go_sem, Nat.reduceAdd, Nat.reduceSub, Nat.reduceMul, Nat.reduceEqDiff, Nat.reduceLT, Nat.reduceLeDiff, Nat.reduceBEq, reduceIte, reduceCtorEq, Int.reduceToNat, Int.reduceLE, Int.reduceLT, Int.reduceBEq, Int.reduceBNe, hm0, hm1]) | simp only [go_sem, Nat.reduceAdd, Nat.reduceSub, Nat.reduceMul, Nat.reduceEqDiff, Nat.reduceLT, Nat.reduceLeDiff, Nat.reduceBEq, reduceIte, reduceCtorEq, Int.reduceToNat, Int.reduceLE, Int.reduceLT, Int.reduceBEq, Int.reduceBNe, hm0, hm1]))
  have hc := checkA_ok ⟨0, []⟩ ⟨0, 0, a, 1⟩ ws 20444 20478 ⟨by decide, by simp only [rrP]; exact ⟨by omega, by omega, by omega, by omega, by omega⟩, hv, by omega, by omega, by omega, by omega⟩ rfl rfl (by simp only; omega) rfl
  have hc2 := hc.le (args' := [.agg [.int .i64 0, .nils], .agg [.int .i64 0, .int .i64 0, .int .i64 a, .int .i64 1], .pure 2 (els ws), .int .i64 20444, .int .i64 20478]) (by simp [leL, le, Zn.v, els, RR.c])
  (refine callC_of [] [] (by simp) rfl (bindL_clean _ (by first | rfl | simp only [go_sem, Nat.reduceAdd, Nat.reduceSub, Nat.reduceMul, Nat.reduceEqDiff, Nat.reduceLT, Nat.reduceLeDiff, Nat.reduceBEq, reduceIte, reduceCtorEq, Int.reduceToNat, Int.reduceLE, Int.reduceLT, Int.reduceBEq, Int.reduceBNe])) (hc2) ?_; rintro _ _ ⟨B, hB, rfl, rfl⟩; refine ⟨.inl rfl, ?_⟩; simp only [go_sem, Nat.reduceAdd, Nat.reduceSub, Nat.reduceMul, Nat.reduceEqDiff, Nat.reduceLT, Nat.reduceLeDiff, Nat.reduceBEq, reduceIte, reduceCtorEq, Int.reduceToNat, Int.reduceLE, Int.reduceLT, Int.reduceBEq, Int.reduceBNe])
  simp only at hB
  rw [mds5, avs] at hB
  have hF : ∀ m, 0 ≤ avF (flatS ws) m ∧ avF (flatS ws) m ≤ 100000 := avF_bd hv (B := []) (by simp)
  have hBl : B.length ≤ 5 := by
    rw [hB]
    exact Nat.le_trans (List.length_filter_le _ _) (by rw [List.length_map, mdL_length]; exact Nat.le_refl _)
  (repeat (first | (refine Cl.here ?_; simp only [go_sem, Nat.reduceAdd, Nat.reduceSub, Nat.reduceMul, Nat.reduceEqDiff, Nat.reduceLT, Nat.reduceLeDiff, Nat.reduceBEq, reduceIte, reduceCtorEq, Int.reduceToNat, Int.reduceLE, Int.reduceLT, Int.reduceBEq, Int.reduceBNe, bne_self_eq_false]) | simp only [go_sem, Nat.reduceAdd, Nat.reduceSub, Nat.reduceMul, Nat.reduceEqDiff, Nat.reduceLT, Nat.reduceLeDiff, Nat.reduceBEq, reduceIte, reduceCtorEq, Int.reduceToNat, Int.reduceLE, Int.reduceLT, Int.reduceBEq, Int.reduceBNe, bne_self_eq_false]))
  obtain ⟨E, hE⟩ : ∃ E : Int, ∀ k : Nat, k < 5 → 20444 + 7 * (k : Int) < E := ⟨20600, fun k hk => by omega⟩
  refine avcW_loop (fun env rows => ∃ k at_ : Nat, k ≤ 5 ∧ at_ ≤ B.length ∧ B.drop at_ = (((mdL 20444 5).drop k).map fun m => (⟨3, m, avF (flatS ws) m⟩ : Br)).filter (brGt a) ∧ env = [(6, .pure 2 (els ws)), (7, .int .i64 a), (8, .int .i64 20444), (9, .own 0 B.length 0 B.length), (11, .int .i64 at_), (12, .int .i64 (20444 + 7 * (k : Int)))] ∧ rows = [.live 40 3 (els B)])
    (fun env _ => match slot env 12 with | .int _ j => (E - j).toNat | _ => 0) ?_ ?_
  · exact Cl.here ⟨0, 0, by omega, by omega, hB, rfl, rfl⟩
  rintro env rows ⟨k, at2, hk, hat, hd, rfl, rfl⟩
  have hm35 : IntKind.i64.wrap (20444 + 35) = 20479 := rfl
  simp only [go_sem, Nat.reduceAdd, Nat.reduceSub, Nat.reduceMul, Nat.reduceEqDiff, Nat.reduceLT, Nat.reduceLeDiff, Nat.reduceBEq, reduceIte, reduceCtorEq, Int.reduceToNat, Int.reduceLE, Int.reduceLT, Int.reduceBEq, Int.reduceBNe, a4, a4r0, a4r1, a4r2, a4r3, a4r4, a4r5, a4r6, a4r7, a4r8, a4r9, a4r10, a4r11, a4r12, a4r13, a4r14, a4r15, a4r16, a4r17, a4r18, a4r19, a4r20, a4r21, a4r22, hm35]
  (repeat (first | (refine Cl.here ?_; simp only [go_sem, Nat.reduceAdd, Nat.reduceSub, Nat.reduceMul, Nat.reduceEqDiff, Nat.reduceLT, Nat.reduceLeDiff, Nat.reduceBEq, reduceIte, reduceCtorEq, Int.reduceToNat, Int.reduceLE, Int.reduceLT, Int.reduceBEq, Int.reduceBNe, hm35]) | simp only [go_sem, Nat.reduceAdd, Nat.reduceSub, Nat.reduceMul, Nat.reduceEqDiff, Nat.reduceLT, Nat.reduceLeDiff, Nat.reduceBEq, reduceIte, reduceCtorEq, Int.reduceToNat, Int.reduceLE, Int.reduceLT, Int.reduceBEq, Int.reduceBNe, hm35]))
  refine condW_intro ?_ ?_ <;> intro hg2 <;> simp only [decide_eq_true_eq, decide_eq_false_iff_not, beq_iff_eq, beq_eq_false_iff_ne, bne_iff_ne, bne_eq_false_iff_eq, Bool.not_eq_true', Bool.not_eq_false', Int.not_lt, Int.not_le, ne_eq, Bool.and_eq_true, Bool.or_eq_true, Bool.or_eq_false_iff, Bool.and_eq_false_iff] at hg2 <;> simp only [go_sem, Nat.reduceAdd, Nat.reduceSub, Nat.reduceMul, Nat.reduceEqDiff, Nat.reduceLT, Nat.reduceLeDiff, Nat.reduceBEq, reduceIte, reduceCtorEq, Int.reduceToNat, Int.reduceLE, Int.reduceLT, Int.reduceBEq, Int.reduceBNe, a4, a4r0, a4r1, a4r2, a4r3, a4r4, a4r5, a4r6, a4r7, a4r8, a4r9, a4r10, a4r11, a4r12, a4r13, a4r14, a4r15, a4r16, a4r17, a4r18, a4r19, a4r20, a4r21, a4r22]
  · have hk5 : k < 5 := by omega
    rw [mdL5 hk5, List.map_cons, List.filter_cons] at hd
    have hm7 : IntKind.i64.wrap (20444 + 7 * (k : Int) + 7) = 20444 + 7 * ((k + 1 : Nat) : Int) := by rw [wrap_i64 (by omega) (by omega)]; omega
    have hEk := hE k hk5
    have hdec : (E - (20444 + 7 * ((k + 1 : Nat) : Int))).toNat < (E - (20444 + 7 * (k : Int))).toNat := by
      clear hE
      rw [Int.natCast_add, Int.natCast_one, Int.mul_add, ← Int.add_assoc]
      generalize 20444 + 7 * (k : Int) = q at hEk ⊢
      omega
    obtain ⟨m, hm⟩ : ∃ m, m = 20444 + 7 * (k : Int) := ⟨_, rfl⟩
    rw [← hm] at hd hm7 hdec ⊢
    repeat (refine Cl.here ?_; simp only [go_sem, Nat.reduceAdd, Nat.reduceSub, Nat.reduceMul, Nat.reduceEqDiff, Nat.reduceLT, Nat.reduceLeDiff, Nat.reduceBEq, reduceIte, reduceCtorEq, Int.reduceToNat, Int.reduceLE, Int.reduceLT, Int.reduceBEq, Int.reduceBNe])
    refine avcW_loop (fun env rows => ∃ j : Nat, j ≤ ws.length ∧ env = [(6, .pure 2 (els ws)), (7, .int .i64 a), (8, .int .i64 20444), (9, .own 0 B.length 0 B.length), (11, .int .i64 at2), (12, .int .i64 m), (13, .int .i64 (avF (flatS (ws.take j)) m)), (14, .int .i64 j)] ∧ rows = [.live 40 3 (els B)])
      (fun env _ => match slot env 14 with | .int _ j => (ws.length - j).toNat | _ => 0) ?_ ?_
    · exact Cl.here ⟨0, by omega, by simp [flatS, avF, sumS], rfl⟩
    rintro env rows ⟨j, hj, rfl, rfl⟩
    have hwj : IntKind.i64.wrap ((j : Int) + 1) = ((j + 1 : Nat) : Int) := by rw [wrap_i64 (by omega) (by omega)]; omega
    have hbj : 0 ≤ avF (flatS (ws.take j)) m ∧ avF (flatS (ws.take j)) m ≤ 100000 := avF_bd hv (B := flatS (ws.drop j)) (by unfold flatS; rw [← List.flatMap_append, List.take_append_drop]) m
    have hbj1 : 0 ≤ avF (flatS (ws.take (j + 1))) m ∧ avF (flatS (ws.take (j + 1))) m ≤ 100000 := avF_bd hv (B := flatS (ws.drop (j + 1))) (by unfold flatS; rw [← List.flatMap_append, List.take_append_drop]) m
    simp only [go_sem, Nat.reduceAdd, Nat.reduceSub, Nat.reduceMul, Nat.reduceEqDiff, Nat.reduceLT, Nat.reduceLeDiff, Nat.reduceBEq, reduceIte, reduceCtorEq, Int.reduceToNat, Int.reduceLE, Int.reduceLT, Int.reduceBEq, Int.reduceBNe, a4, a4r0, a4r1, a4r2, a4r3, a4r4, a4r5, a4r6, a4r7, a4r8, a4r9, a4r10, a4r11, a4r12, a4r13, a4r14, a4r15, a4r16, a4r17, a4r18, a4r19, a4r20, a4r21, a4r22]
    (refine Cl.here ?_; simp only [go_sem, Nat.reduceAdd, Nat.reduceSub, Nat.reduceMul, Nat.reduceEqDiff, Nat.reduceLT, Nat.reduceLeDiff, Nat.reduceBEq, reduceIte, reduceCtorEq, Int.reduceToNat, Int.reduceLE, Int.reduceLT, Int.reduceBEq, Int.reduceBNe])
    refine condW_intro ?_ ?_ <;> intro hg3 <;> simp only [decide_eq_true_eq, decide_eq_false_iff_not, beq_iff_eq, beq_eq_false_iff_ne, bne_iff_ne, bne_eq_false_iff_eq, Bool.not_eq_true', Bool.not_eq_false', Int.not_lt, Int.not_le, ne_eq, Bool.and_eq_true, Bool.or_eq_true, Bool.or_eq_false_iff, Bool.and_eq_false_iff] at hg3 <;> simp only [go_sem, Nat.reduceAdd, Nat.reduceSub, Nat.reduceMul, Nat.reduceEqDiff, Nat.reduceLT, Nat.reduceLeDiff, Nat.reduceBEq, reduceIte, reduceCtorEq, Int.reduceToNat, Int.reduceLE, Int.reduceLT, Int.reduceBEq, Int.reduceBNe, a4, a4r0, a4r1, a4r2, a4r3, a4r4, a4r5, a4r6, a4r7, a4r8, a4r9, a4r10, a4r11, a4r12, a4r13, a4r14, a4r15, a4r16, a4r17, a4r18, a4r19, a4r20, a4r21, a4r22]
    · have hlj : j < ws.length := by omega
      have hT := avF_take hv hlj m
      have hwj2 := hwd ws[j] (List.getElem_mem hlj)
      have hget : (els ws).getD j [] = [.int .i64 ws[j].day, .pure 2 (els ws[j].iv)] := by rw [els_getD hlj, cel_wk]
      generalize ws[j] = w at hT hwj2 hget
      have hj0 : (0 : Int) ≤ j := by omega
      rw [hT] at hbj1
      have hm77 : IntKind.i64.wrap (m + 7) = m + 7 := wrap_i64 (by omega) (by omega)
      have hmon : mon w.day = m ↔ m ≤ w.day ∧ w.day < m + 7 := by unfold mon; omega
      by_cases c1 : w.day ≥ m
      · by_cases c2 : w.day < m + 7
        · have hc : mon w.day = m := hmon.2 ⟨c1, c2⟩
          rw [if_pos hc] at hT hbj1
          (repeat (first | (refine Cl.here ?_; simp only [go_sem, Nat.reduceAdd, Nat.reduceSub, Nat.reduceMul, Nat.reduceEqDiff, Nat.reduceLT, Nat.reduceLeDiff, Nat.reduceBEq, reduceIte, reduceCtorEq, Int.reduceToNat, Int.reduceLE, Int.reduceLT, Int.reduceBEq, Int.reduceBNe, hj0, hg3, hget, c1, c2, hm77]) | simp only [go_sem, Nat.reduceAdd, Nat.reduceSub, Nat.reduceMul, Nat.reduceEqDiff, Nat.reduceLT, Nat.reduceLeDiff, Nat.reduceBEq, reduceIte, reduceCtorEq, Int.reduceToNat, Int.reduceLE, Int.reduceLT, Int.reduceBEq, Int.reduceBNe, hj0, hg3, hget, c1, c2, hm77]))
          (refine callC_of [] [] (by simp) rfl (bindL_clean _ (by first | rfl | simp only [go_sem, Nat.reduceAdd, Nat.reduceSub, Nat.reduceMul, Nat.reduceEqDiff, Nat.reduceLT, Nat.reduceLeDiff, Nat.reduceBEq, reduceIte, reduceCtorEq, Int.reduceToNat, Int.reduceLE, Int.reduceLT, Int.reduceBEq, Int.reduceBNe])) (minutes_ok w.iv (by omega)) ?_; rintro _ _ ⟨rfl, rfl⟩; refine ⟨.inl rfl, ?_⟩; simp only [go_sem, Nat.reduceAdd, Nat.reduceSub, Nat.reduceMul, Nat.reduceEqDiff, Nat.reduceLT, Nat.reduceLeDiff, Nat.reduceBEq, reduceIte, reduceCtorEq, Int.reduceToNat, Int.reduceLE, Int.reduceLT, Int.reduceBEq, Int.reduceBNe])
          rw [wrap_i64 (x := avF (flatS (ws.take j)) m + mnI w.iv) (by omega) (by omega), ← hT]
          (repeat (first | (refine Cl.here ?_; simp only [go_sem, Nat.reduceAdd, Nat.reduceSub, Nat.reduceMul, Nat.reduceEqDiff, Nat.reduceLT, Nat.reduceLeDiff, Nat.reduceBEq, reduceIte, reduceCtorEq, Int.reduceToNat, Int.reduceLE, Int.reduceLT, Int.reduceBEq, Int.reduceBNe, hwj]) | simp only [go_sem, Nat.reduceAdd, Nat.reduceSub, Nat.reduceMul, Nat.reduceEqDiff, Nat.reduceLT, Nat.reduceLeDiff, Nat.reduceBEq, reduceIte, reduceCtorEq, Int.reduceToNat, Int.reduceLE, Int.reduceLT, Int.reduceBEq, Int.reduceBNe, hwj]))
          exact ⟨⟨j + 1, by omega, rfl⟩, by omega⟩
        · have hc : ¬ mon w.day = m := fun h => c2 (hmon.1 h).2
          rw [if_neg hc, Int.add_zero] at hT
          (repeat (first | (refine Cl.here ?_; simp only [go_sem, Nat.reduceAdd, Nat.reduceSub, Nat.reduceMul, Nat.reduceEqDiff, Nat.reduceLT, Nat.reduceLeDiff, Nat.reduceBEq, reduceIte, reduceCtorEq, Int.reduceToNat, Int.reduceLE, Int.reduceLT, Int.reduceBEq, Int.reduceBNe, hj0, hg3, hget, c1, c2, hm77, hwj]) | simp only [go_sem, Nat.reduceAdd, Nat.reduceSub, Nat.reduceMul, Nat.reduceEqDiff, Nat.reduceLT, Nat.reduceLeDiff, Nat.reduceBEq, reduceIte, reduceCtorEq, Int.reduceToNat, Int.reduceLE, Int.reduceLT, Int.reduceBEq, Int.reduceBNe, hj0, hg3, hget, c1, c2, hm77, hwj]))
          rw [← hT]
          exact ⟨⟨j + 1, by omega, rfl⟩, by omega⟩
      · have hc : ¬ mon w.day = m := fun h => c1 (hmon.1 h).1
        rw [if_neg hc, Int.add_zero] at hT
        (repeat (first | (refine Cl.here ?_; simp only [go_sem, Nat.reduceAdd, Nat.reduceSub, Nat.reduceMul, Nat.reduceEqDiff, Nat.reduceLT, Nat.reduceLeDiff, Nat.reduceBEq, reduceIte, reduceCtorEq, Int.reduceToNat, Int.reduceLE, Int.reduceLT, Int.reduceBEq, Int.reduceBNe, hj0, hg3, hget, c1, hm77, hwj]) | simp only [go_sem, Nat.reduceAdd, Nat.reduceSub, Nat.reduceMul, Nat.reduceEqDiff, Nat.reduceLT, Nat.reduceLeDiff, Nat.reduceBEq, reduceIte, reduceCtorEq, Int.reduceToNat, Int.reduceLE, Int.reduceLT, Int.reduceBEq, Int.reduceBNe, hj0, hg3, hget, c1, hm77, hwj]))
        rw [← hT]
        exact ⟨⟨j + 1, by omega, rfl⟩, by omega⟩
    · obtain rfl : j = ws.length := by omega
      rw [List.take_length]
      have hFm := hF m
      by_cases c : avF (flatS ws) m ≤ a
      · have hbr : ¬ brGt a ⟨3, m, avF (flatS ws) m⟩ = true := by simp [brGt]; omega
        rw [if_neg hbr] at hd
        (repeat (first | (refine Cl.here ?_; simp only [go_sem, Nat.reduceAdd, Nat.reduceSub, Nat.reduceMul, Nat.reduceEqDiff, Nat.reduceLT, Nat.reduceLeDiff, Nat.reduceBEq, reduceIte, reduceCtorEq, Int.reduceToNat, Int.reduceLE, Int.reduceLT, Int.reduceBEq, Int.reduceBNe, c, hm7]) | simp only [go_sem, Nat.reduceAdd, Nat.reduceSub, Nat.reduceMul, Nat.reduceEqDiff, Nat.reduceLT, Nat.reduceLeDiff, Nat.reduceBEq, reduceIte, reduceCtorEq, Int.reduceToNat, Int.reduceLE, Int.reduceLT, Int.reduceBEq, Int.reduceBNe, c, hm7]))
        exact ⟨⟨k + 1, at2, by omega, by omega, hd, rfl⟩, hdec⟩
      · have hbr : brGt a ⟨3, m, avF (flatS ws) m⟩ = true := by simp [brGt]; omega
        rw [if_pos hbr] at hd
        have hlt : at2 < B.length := by
          rcases Nat.lt_or_ge at2 B.length with h | h
          · exact h
          · rw [List.drop_of_length_le h] at hd; cases hd
        rw [List.drop_eq_getElem_cons hlt] at hd
        injection hd with hd1 hd2
        have hget : (els B).getD at2 [] = [.int .i64 3, .int .i64 m, .int .i64 (avF (flatS ws) m)] := by rw [els_getD hlt, hd1]; rfl
        have c3 : ¬ ((at2 : Int) ≥ B.length) := by omega
        have c4 : (at2 : Int) < B.length := by omega
        have c5 : (0 : Int) ≤ at2 := by omega
        have hwa : IntKind.i64.wrap ((at2 : Int) + 1) = ((at2 + 1 : Nat) : Int) := by rw [wrap_i64 (by omega) (by omega)]; omega
        have heq : eqCells [.int .i64 3, .int .i64 m, .int .i64 (avF (flatS ws) m)] [.int .i64 3, .int .i64 m, .int .i64 (avF (flatS ws) m)] = true := by simp [eqCells]
        (repeat (first | (refine Cl.here ?_; simp only [go_sem, Nat.reduceAdd, Nat.reduceSub, Nat.reduceMul, Nat.reduceEqDiff, Nat.reduceLT, Nat.reduceLeDiff, Nat.reduceBEq, reduceIte, reduceCtorEq, Int.reduceToNat, Int.reduceLE, Int.reduceLT, Int.reduceBEq, Int.reduceBNe, c, c3, c4, c5, hget, heq, hm7, hwa, bne_self_eq_false]) | simp only [go_sem, Nat.reduceAdd, Nat.reduceSub, Nat.reduceMul, Nat.reduceEqDiff, Nat.reduceLT, Nat.reduceLeDiff, Nat.reduceBEq, reduceIte, reduceCtorEq, Int.reduceToNat, Int.reduceLE, Int.reduceLT, Int.reduceBEq, Int.reduceBNe, c, c3, c4, c5, hget, heq, hm7, hwa, bne_self_eq_false]))
        exact ⟨⟨k + 1, at2 + 1, by omega, by omega, hd2, rfl⟩, hdec⟩
  · obtain rfl : k = 5 := by omega
    rw [show (mdL 20444 5).drop 5 = [] from List.drop_of_length_le (by rw [mdL_length]; exact Nat.le_refl _), List.map_nil, List.filter_nil] at hd
    have hat2 : at2 = B.length := by
      have := List.drop_eq_nil_iff.1 hd
      omega
    subst hat2
    (repeat (first | (refine Cl.here ?_; simp only [go_sem, Nat.reduceAdd, Nat.reduceSub, Nat.reduceMul, Nat.reduceEqDiff, Nat.reduceLT, Nat.reduceLeDiff, Nat.reduceBEq, reduceIte, reduceCtorEq, Int.reduceToNat, Int.reduceLE, Int.reduceLT, Int.reduceBEq, Int.reduceBNe]) | simp only [go_sem, Nat.reduceAdd, Nat.reduceSub, Nat.reduceMul, Nat.reduceEqDiff, Nat.reduceLT, Nat.reduceLeDiff, Nat.reduceBEq, reduceIte, reduceCtorEq, Int.reduceToNat, Int.reduceLE, Int.reduceLT, Int.reduceBEq, Int.reduceBNe]))
    refine callC_det saneR_ok rfl rfl ?_
    (repeat (first | (refine Cl.here ?_; simp only [go_sem, Nat.reduceAdd, Nat.reduceSub, Nat.reduceMul, Nat.reduceEqDiff, Nat.reduceLT, Nat.reduceLeDiff, Nat.reduceBEq, reduceIte, reduceCtorEq, Int.reduceToNat, Int.reduceLE, Int.reduceLT, Int.reduceBEq, Int.reduceBNe]) | simp only [go_sem, Nat.reduceAdd, Nat.reduceSub, Nat.reduceMul, Nat.reduceEqDiff, Nat.reduceLT, Nat.reduceLeDiff, Nat.reduceBEq, reduceIte, reduceCtorEq, Int.reduceToNat, Int.reduceLE, Int.reduceLT, Int.reduceBEq, Int.reduceBNe]))
    exact Cl.fin rfl rfl

end Go.Proofs.YtaloobgfgehhdaaGreat
