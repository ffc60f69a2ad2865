/- Rest: the breaches of the average working time (averages over one week); the check. -/
import Derived.Test.YtaloobgfgehhdaaGreatR6Rst3
set_option linter.unusedSimpArgs false
set_option linter.unusedVariables false
set_option linter.unusedSectionVars false
namespace Go.Proofs.YtaloobgfgehhdaaGreat
open Go Go.Abs
set_option linter.unusedSimpArgs false
set_option linter.unusedVariables false

/-- the minutes of a week -/
def avF (T : List Spn) (m : Int) : Int := sumS (T.filter fun s => decide (mon s.day = m))
theorem avF_snoc {T : List Spn} {s : Spn} {m : Int} : avF (T ++ [s]) m = avF T m + if mon s.day = m then s.to - s.fr else 0 := by
  unfold avF
  rw [List.filter_append, sumS_append, List.filter_cons]
  by_cases h : mon s.day = m <;> simp [h, sumS]
theorem sumS_filter {p : Spn → Bool} : ∀ {T : List Spn}, (∀ s ∈ T, ivP s.fr s.to) → 0 ≤ sumS (T.filter p) ∧ sumS (T.filter p) ≤ sumS T
  | [], _ => by simp [sumS]
  | s :: T, h => by
    have h1 := sumS_filter (p := p) (T := T) fun x hx => h x (List.mem_cons_of_mem _ hx)
    have h2 := h s List.mem_cons_self
    unfold ivP at h2
    rw [List.filter_cons]
    split <;> simp only [sumS] <;> omega
theorem avF_bd {ws : List Wk} (he : spE ws = 0) {A B : List Spn} (h : A ++ B = flatS ws) (m : Int) : 0 ≤ avF A m ∧ avF A m ≤ 100000 := by
  obtain ⟨hl1, hl2, hwk, hdj, hsum⟩ := spE_zero he
  have hiv : ∀ s ∈ A ++ B, ivP s.fr s.to := fun s hs => by rw [h] at hs; exact (flat_iv hwk s hs).1
  have h1 := sumS_filter (p := fun s => decide (mon s.day = m)) (T := A) fun s hs => hiv s (List.mem_append_left _ hs)
  have h2 := (sumS_filter (p := fun _ => false) (T := B) fun s hs => hiv s (List.mem_append_right _ hs))
  have h3 := sumS_append A B
  rw [h] at h3
  have h4 : 0 ≤ sumS B := by omega
  unfold avF
  omega
theorem flatS_split {ws : List Wk} {i : Nat} (h : i < ws.length) (k : Nat) : (flatS (ws.take i) ++ (flatW ws[i]).take k) ++ ((flatW ws[i]).drop k ++ flatS (ws.drop (i + 1))) = flatS ws := by
  have h1 : flatS ws = flatS (ws.take i) ++ flatS (ws.drop i) := by
    unfold flatS
    rw [← List.flatMap_append, List.take_append_drop]
  rw [h1, List.drop_eq_getElem_cons h]
  have h2 : flatS (ws[i] :: ws.drop (i + 1)) = flatW ws[i] ++ flatS (ws.drop (i + 1)) := rfl
  rw [h2, List.append_assoc, ← List.append_assoc (List.take k _), List.take_append_drop]
/-- the minutes of weeks -/
def avs (ws : List Wk) (ms : List Int) : List Br := ms.map fun m => ⟨3, m, avF (flatS ws) m⟩
def brGt (n : Int) (x : Br) : Bool := decide (n < x.min)

set_option maxHeartbeats 2000000 in
theorem average_ok (r : RR) (hr : r.weeks = 1) (hr2 : 0 ≤ r.average ∧ r.average ≤ 10080) (ws : List Wk) (he : spE ws = 0) (ms : List Int) (hml : ms.length ≤ 20000) : AFn Tryz.prog 21 [.agg r.c, .pure 2 (els ws), .pure 1 (numsE .i64 ms)] []
    (fun v rs => ∃ W, W = (avs ws ms).filter (brGt r.average) ∧ v = .own 0 W.length 0 W.length ∧ rs = [.live 40 3 (els W)]) := by
  refine afn Tryz.func21 a21_ok (by simp [a21]) ?_
  obtain ⟨hl1, hl2, hwk, hdj, hsum⟩ := spE_zero he
  unfold RR.c
  rw [hr]
  simp only [go_sem, Nat.reduceAdd, Nat.reduceSub, Nat.reduceMul, Nat.reduceEqDiff, Nat.reduceLT, Nat.reduceLeDiff, Nat.reduceBEq, reduceIte, reduceCtorEq, Int.reduceToNat, Int.reduceLE, Int.reduceLT, Int.reduceBEq, Int.reduceBNe, a21, a21r0, a21r1, a21r2, a21r3, a21r4, a21r5, a21r6, a21r7, a21r8, a21r9, a21r10, a21r11, a21r12, a21r13, a21r14, a21r15, a21r16, a21r17, a21r18, a21r19, a21r20, a21r21, a21r22, a21r23]
  refine avc_loop (fun env rows => ∃ (i : Nat) (M : List (Int × Int)), i ≤ ws.length ∧ (∀ m, lk M m = avF (flatS (ws.take i)) m) ∧ env = [(2, .pure 1 (numsE .i64 ms)), (3, .ref 0 1 0 0), (7, .mref 1), (18, .pure 2 (els ws)), (19, .int .i64 ws.length), (20, .int .i64 i)] ∧ rows = [.live 33 4 [[.int .i64 r.daily, .int .i64 r.weekly, .int .i64 r.average, .int .i64 1]], .obj (.map false [.int .i64] (mapI M))])
    (fun env _ => match slot env 20 with | .int _ j => (ws.length - j).toNat | _ => 0) ?_ ?_
  · exact Cl.here ⟨0, [], by omega, fun m => by simp [lk, Abs.look, avF, flatS, sumS], rfl, rfl⟩
  · rintro env rows ⟨i, M, hi, hM, rfl, rfl⟩
    have hw : IntKind.i64.wrap ((i : Int) + 1) = ((i + 1 : Nat) : Int) := by rw [wrap_i64 (by omega) (by omega)]; omega
    simp only [go_sem, Nat.reduceAdd, Nat.reduceSub, Nat.reduceMul, Nat.reduceEqDiff, Nat.reduceLT, Nat.reduceLeDiff, Nat.reduceBEq, reduceIte, reduceCtorEq, Int.reduceToNat, Int.reduceLE, Int.reduceLT, Int.reduceBEq, Int.reduceBNe, a21, a21r0, a21r1, a21r2, a21r3, a21r4, a21r5, a21r6, a21r7, a21r8, a21r9, a21r10, a21r11, a21r12, a21r13, a21r14, a21r15, a21r16, a21r17, a21r18, a21r19, a21r20, a21r21, a21r22, a21r23]
    refine condC_intro ?_ ?_ <;> intro hg2 <;> simp only [decide_eq_true_eq, decide_eq_false_iff_not, beq_iff_eq, beq_eq_false_iff_ne, bne_iff_ne, bne_eq_false_iff_eq, Bool.not_eq_true', Bool.not_eq_false', Int.not_lt, Int.not_le, ne_eq, Bool.and_eq_true, Bool.or_eq_true, Bool.or_eq_false_iff, Bool.and_eq_false_iff] at hg2 <;> simp only [go_sem, Nat.reduceAdd, Nat.reduceSub, Nat.reduceMul, Nat.reduceEqDiff, Nat.reduceLT, Nat.reduceLeDiff, Nat.reduceBEq, reduceIte, reduceCtorEq, Int.reduceToNat, Int.reduceLE, Int.reduceLT, Int.reduceBEq, Int.reduceBNe, a21, a21r0, a21r1, a21r2, a21r3, a21r4, a21r5, a21r6, a21r7, a21r8, a21r9, a21r10, a21r11, a21r12, a21r13, a21r14, a21r15, a21r16, a21r17, a21r18, a21r19, a21r20, a21r21, a21r22, a21r23]
    · have hlt : i < ws.length := by omega
      refine ⟨by omega, by omega, ?_⟩
      try simp only [Int.toNat_natCast]
      have hT := flatS_take hlt
      have hbd := fun k m => avF_bd he (flatS_split hlt k) m
      have hwi := hl2 ws[i] (List.getElem_mem _)
      have hwd := (hwk ws[i] (List.getElem_mem _)).1
      have hwv := (hwk ws[i] (List.getElem_mem _)).2
      rw [els_getD hlt]
      generalize ws[i] = w at hT hwi hbd hwd hwv ⊢
      generalize flatS (ws.take i) = T at *
      simp only [go_sem, Nat.reduceAdd, Nat.reduceSub, Nat.reduceMul, Nat.reduceEqDiff, Nat.reduceLT, Nat.reduceLeDiff, Nat.reduceBEq, reduceIte, reduceCtorEq, Int.reduceToNat, Int.reduceLE, Int.reduceLT, Int.reduceBEq, Int.reduceBNe, cel_wk]
      refine callD_det (weekday_ok w.day (by omega) (by omega)) rfl rfl ?_
      simp only [go_sem, Nat.reduceAdd, Nat.reduceSub, Nat.reduceMul, Nat.reduceEqDiff, Nat.reduceLT, Nat.reduceLeDiff, Nat.reduceBEq, reduceIte, reduceCtorEq, Int.reduceToNat, Int.reduceLE, Int.reduceLT, Int.reduceBEq, Int.reduceBNe]
      rw [wrap_i64 (x := w.day - (w.day + 3) % 7) (by omega) (by omega)]
      have hmn : w.day - (w.day + 3) % 7 = mon w.day := rfl
      rw [hmn]
      generalize hmw : mon w.day = mw at *
      refine avc_loop (fun env rows => ∃ (k : Nat) (M : List (Int × Int)), k ≤ w.iv.length ∧ (∀ m, lk M m = avF (T ++ (flatW w).take k) m) ∧ env = [(2, .pure 1 (numsE .i64 ms)), (3, .ref 0 1 0 0), (7, .mref 1), (10, .int .i64 mw), (18, .pure 2 (els ws)), (19, .int .i64 ws.length), (20, .int .i64 i), (31, .pure 2 (els w.iv)), (32, .int .i64 w.iv.length), (33, .int .i64 k)] ∧ rows = [.live 33 4 [[.int .i64 r.daily, .int .i64 r.weekly, .int .i64 r.average, .int .i64 1]], .obj (.map false [.int .i64] (mapI M))])
        (fun env _ => match slot env 33 with | .int _ j => (w.iv.length - j).toNat | _ => 0) ?_ ?_
      · (refine Cl.tr [some 0, some 1] [] rfl rfl (by simp only [go_sem, Nat.reduceAdd, Nat.reduceSub, Nat.reduceMul, Nat.reduceEqDiff, Nat.reduceLT, Nat.reduceLeDiff, Nat.reduceBEq, reduceIte, reduceCtorEq, Int.reduceToNat, Int.reduceLE, Int.reduceLT, Int.reduceBEq, Int.reduceBNe] <;> rfl) ?_; simp only [go_sem, Nat.reduceAdd, Nat.reduceSub, Nat.reduceMul, Nat.reduceEqDiff, Nat.reduceLT, Nat.reduceLeDiff, Nat.reduceBEq, reduceIte, reduceCtorEq, Int.reduceToNat, Int.reduceLE, Int.reduceLT, Int.reduceBEq, Int.reduceBNe])
        exact Cl.here ⟨0, M, by omega, fun m => by simpa using hM m, rfl, rfl⟩
      · rintro env rows ⟨k, M, hk, hM, rfl, rfl⟩
        have hwk2 : IntKind.i64.wrap ((k : Int) + 1) = ((k + 1 : Nat) : Int) := by rw [wrap_i64 (by omega) (by omega)]; omega
        simp only [go_sem, Nat.reduceAdd, Nat.reduceSub, Nat.reduceMul, Nat.reduceEqDiff, Nat.reduceLT, Nat.reduceLeDiff, Nat.reduceBEq, reduceIte, reduceCtorEq, Int.reduceToNat, Int.reduceLE, Int.reduceLT, Int.reduceBEq, Int.reduceBNe, a21, a21r0, a21r1, a21r2, a21r3, a21r4, a21r5, a21r6, a21r7, a21r8, a21r9, a21r10, a21r11, a21r12, a21r13, a21r14, a21r15, a21r16, a21r17, a21r18, a21r19, a21r20, a21r21, a21r22, a21r23]
        refine condC_intro ?_ ?_ <;> intro hg3 <;> simp only [decide_eq_true_eq, decide_eq_false_iff_not, beq_iff_eq, beq_eq_false_iff_ne, bne_iff_ne, bne_eq_false_iff_eq, Bool.not_eq_true', Bool.not_eq_false', Int.not_lt, Int.not_le, ne_eq, Bool.and_eq_true, Bool.or_eq_true, Bool.or_eq_false_iff, Bool.and_eq_false_iff] at hg3 <;> simp only [go_sem, Nat.reduceAdd, Nat.reduceSub, Nat.reduceMul, Nat.reduceEqDiff, Nat.reduceLT, Nat.reduceLeDiff, Nat.reduceBEq, reduceIte, reduceCtorEq, Int.reduceToNat, Int.reduceLE, Int.reduceLT, Int.reduceBEq, Int.reduceBNe, a21, a21r0, a21r1, a21r2, a21r3, a21r4, a21r5, a21r6, a21r7, a21r8, a21r9, a21r10, a21r11, a21r12, a21r13, a21r14, a21r15, a21r16, a21r17, a21r18, a21r19, a21r20, a21r21, a21r22, a21r23]
        · have hlt2 : k < w.iv.length := by omega
          refine ⟨by omega, by omega, ?_⟩
          try simp only [Int.toNat_natCast]
          have hW := flatW_take hlt2
          have hv := hwv w.iv[k] (List.getElem_mem _)
          rw [els_getD hlt2]
          have hb1 := hbd k mw
          rw [← hM mw] at hb1
          have hN : ∀ m, avF (T ++ (flatW w).take (k + 1)) m = avF (T ++ (flatW w).take k) m + if mw = m then w.iv[k].to - w.iv[k].fr else 0 := fun m => by
            rw [hW, ← List.append_assoc, avF_snoc, hmw]
          generalize w.iv[k] = v at hN hv ⊢
          unfold ivP at hv
          simp only [go_sem, Nat.reduceAdd, Nat.reduceSub, Nat.reduceMul, Nat.reduceEqDiff, Nat.reduceLT, Nat.reduceLeDiff, Nat.reduceBEq, reduceIte, reduceCtorEq, Int.reduceToNat, Int.reduceLE, Int.reduceLT, Int.reduceBEq, Int.reduceBNe, cel_iv]
          rw [wrap_i64 (x := v.to - v.fr) (by omega) (by omega), wrap_i64 (x := lk M mw + (v.to - v.fr)) (by omega) (by omega)]
          simp only [go_sem, Nat.reduceAdd, Nat.reduceSub, Nat.reduceMul, Nat.reduceEqDiff, Nat.reduceLT, Nat.reduceLeDiff, Nat.reduceBEq, reduceIte, reduceCtorEq, Int.reduceToNat, Int.reduceLE, Int.reduceLT, Int.reduceBEq, Int.reduceBNe, hwk2]
          (refine Cl.tr [some 0, some 1] [] rfl rfl (by simp only [go_sem, Nat.reduceAdd, Nat.reduceSub, Nat.reduceMul, Nat.reduceEqDiff, Nat.reduceLT, Nat.reduceLeDiff, Nat.reduceBEq, reduceIte, reduceCtorEq, Int.reduceToNat, Int.reduceLE, Int.reduceLT, Int.reduceBEq, Int.reduceBNe] <;> rfl) ?_; simp only [go_sem, Nat.reduceAdd, Nat.reduceSub, Nat.reduceMul, Nat.reduceEqDiff, Nat.reduceLT, Nat.reduceLeDiff, Nat.reduceBEq, reduceIte, reduceCtorEq, Int.reduceToNat, Int.reduceLE, Int.reduceLT, Int.reduceBEq, Int.reduceBNe])
          refine Cl.here ⟨⟨k + 1, _, by omega, ?_, rfl, rfl⟩, ?_⟩
          · intro m
            rw [hN, lk_put, ← hM]
            by_cases h : m = mw
            · subst h; simp
            · have : ¬ mw = m := fun e => h e.symm
              simp [h, this]
          · simp only [go_sem, Nat.reduceAdd, Nat.reduceSub, Nat.reduceMul, Nat.reduceEqDiff, Nat.reduceLT, Nat.reduceLeDiff, Nat.reduceBEq, reduceIte, reduceCtorEq, Int.reduceToNat, Int.reduceLE, Int.reduceLT, Int.reduceBEq, Int.reduceBNe]
            omega
        · have hE : T ++ (flatW w).take k = flatS (ws.take (i + 1)) := by
            rw [hT, List.take_of_length_le (by rw [flatW_length]; omega)]
          rw [hE] at hM
          simp only [go_sem, Nat.reduceAdd, Nat.reduceSub, Nat.reduceMul, Nat.reduceEqDiff, Nat.reduceLT, Nat.reduceLeDiff, Nat.reduceBEq, reduceIte, reduceCtorEq, Int.reduceToNat, Int.reduceLE, Int.reduceLT, Int.reduceBEq, Int.reduceBNe, hw]
          (refine Cl.tr [some 0, some 1] [] rfl rfl (by simp only [go_sem, Nat.reduceAdd, Nat.reduceSub, Nat.reduceMul, Nat.reduceEqDiff, Nat.reduceLT, Nat.reduceLeDiff, Nat.reduceBEq, reduceIte, reduceCtorEq, Int.reduceToNat, Int.reduceLE, Int.reduceLT, Int.reduceBEq, Int.reduceBNe] <;> rfl) ?_; simp only [go_sem, Nat.reduceAdd, Nat.reduceSub, Nat.reduceMul, Nat.reduceEqDiff, Nat.reduceLT, Nat.reduceLeDiff, Nat.reduceBEq, reduceIte, reduceCtorEq, Int.reduceToNat, Int.reduceLE, Int.reduceLT, Int.reduceBEq, Int.reduceBNe])
          refine Cl.here ⟨⟨i + 1, M, by omega, hM, rfl, rfl⟩, ?_⟩
          simp only [go_sem, Nat.reduceAdd, Nat.reduceSub, Nat.reduceMul, Nat.reduceEqDiff, Nat.reduceLT, Nat.reduceLeDiff, Nat.reduceBEq, reduceIte, reduceCtorEq, Int.reduceToNat, Int.reduceLE, Int.reduceLT, Int.reduceBEq, Int.reduceBNe]
          omega
    · obtain rfl : i = ws.length := by omega
      rw [List.take_length] at hM
      have hbd : ∀ m, 0 ≤ avF (flatS ws) m ∧ avF (flatS ws) m ≤ 100000 := avF_bd he (B := []) (by simp)
      unfold avs
      generalize avF (flatS ws) = F at *
      have hF : ∀ m, lk M m = F m := hM
      refine avc_loop (fun env rows => ∃ (i : Nat) (s : Int) (W : List Br), i ≤ ms.length ∧ W ++ ((ms.drop i).map fun m => (⟨3, m, F m⟩ : Br)).filter (brGt r.average) = (ms.map fun m => (⟨3, m, F m⟩ : Br)).filter (brGt r.average) ∧ W.length ≤ i ∧ (i = 0 → s = 0) ∧ (∀ j (h : j < ms.length), i = j + 1 → s = F ms[j]) ∧
          env = [(2, .pure 1 (numsE .i64 ms)), (3, .ref 0 1 0 0), (7, .mref 1), (13, .own 2 W.length 0 W.length), (14, .int .i64 s), (48, .pure 1 (numsE .i64 ms)), (49, .int .i64 ms.length), (50, .int .i64 i)] ∧
          rows = [.live 33 4 [[.int .i64 r.daily, .int .i64 r.weekly, .int .i64 r.average, .int .i64 1]], .obj (.map false [.int .i64] (mapI M)), .live 40 3 (els W)])
        (fun env _ => match slot env 50 with | .int _ j => (ms.length - j).toNat | _ => 0) ?_ ?_
      · (refine Cl.ghost 13  40  3 rfl (Cl.norm [ 2, 3, 7, 13, 14, 48, 49, 50] ?_); simp only [go_sem, Nat.reduceAdd, Nat.reduceSub, Nat.reduceMul, Nat.reduceEqDiff, Nat.reduceLT, Nat.reduceLeDiff, Nat.reduceBEq, reduceIte, reduceCtorEq, Int.reduceToNat, Int.reduceLE, Int.reduceLT, Int.reduceBEq, Int.reduceBNe])
        exact Cl.here ⟨0, 0, [], by omega, rfl, by simp, fun _ => rfl, fun j _ h => by omega, rfl, rfl⟩
      rintro env rows ⟨i, s, W, hi, hd, hWl, hs0, hs1, rfl, rfl⟩
      have hw : IntKind.i64.wrap ((i : Int) + 1) = ((i + 1 : Nat) : Int) := by rw [wrap_i64 (by omega) (by omega)]; omega
      simp only [go_sem, Nat.reduceAdd, Nat.reduceSub, Nat.reduceMul, Nat.reduceEqDiff, Nat.reduceLT, Nat.reduceLeDiff, Nat.reduceBEq, reduceIte, reduceCtorEq, Int.reduceToNat, Int.reduceLE, Int.reduceLT, Int.reduceBEq, Int.reduceBNe, a21, a21r0, a21r1, a21r2, a21r3, a21r4, a21r5, a21r6, a21r7, a21r8, a21r9, a21r10, a21r11, a21r12, a21r13, a21r14, a21r15, a21r16, a21r17, a21r18, a21r19, a21r20, a21r21, a21r22, a21r23]
      refine condC_intro ?_ ?_ <;> intro hg2 <;> simp only [decide_eq_true_eq, decide_eq_false_iff_not, beq_iff_eq, beq_eq_false_iff_ne, bne_iff_ne, bne_eq_false_iff_eq, Bool.not_eq_true', Bool.not_eq_false', Int.not_lt, Int.not_le, ne_eq, Bool.and_eq_true, Bool.or_eq_true, Bool.or_eq_false_iff, Bool.and_eq_false_iff] at hg2 <;> simp only [go_sem, Nat.reduceAdd, Nat.reduceSub, Nat.reduceMul, Nat.reduceEqDiff, Nat.reduceLT, Nat.reduceLeDiff, Nat.reduceBEq, reduceIte, reduceCtorEq, Int.reduceToNat, Int.reduceLE, Int.reduceLT, Int.reduceBEq, Int.reduceBNe, a21, a21r0, a21r1, a21r2, a21r3, a21r4, a21r5, a21r6, a21r7, a21r8, a21r9, a21r10, a21r11, a21r12, a21r13, a21r14, a21r15, a21r16, a21r17, a21r18, a21r19, a21r20, a21r21, a21r22, a21r23]
      · have hlt : i < ms.length := by omega
        refine ⟨by omega, by omega, ?_⟩
        try simp only [Int.toNat_natCast]
        have hgm : ∀ j (hj : j < ms.length), (numsE .i64 ms).getD j [] = [.int .i64 ms[j]] := fun j hj => by rw [numsE_getD hj, List.getD_eq_getElem?_getD, List.getElem?_eq_getElem hj, Option.getD_some]
        rw [List.drop_eq_getElem_cons hlt, List.map_cons, List.filter_cons] at hd
        have hnx : ∀ j (h : j < ms.length), i + 1 = j + 1 → F ms[i] = F ms[j] := by intro j h hj; obtain rfl : i = j := (by omega); rfl
        rw [hgm i hlt]
        generalize ms[i] = m at hd hnx ⊢
        have hbm := hbd m
        have hsb : 0 ≤ s ∧ s ≤ 100000 := by
          cases i with
          | zero => have := hs0 rfl; omega
          | succ j => have := hs1 j (by omega) rfl; have := hbd ms[j]; omega
        simp only [go_sem, Nat.reduceAdd, Nat.reduceSub, Nat.reduceMul, Nat.reduceEqDiff, Nat.reduceLT, Nat.reduceLeDiff, Nat.reduceBEq, reduceIte, reduceCtorEq, Int.reduceToNat, Int.reduceLE, Int.reduceLT, Int.reduceBEq, Int.reduceBNe, hF]
        rw [wrap_i64 (x := s + F m) (by omega) (by omega)]
        cases i with
        | zero =>
          obtain rfl := hs0 rfl
          have h0 : ¬ ((0 : Nat) : Int) ≥ 1 := by omega
          have h1 : ((0 : Nat) : Int) ≥ 0 := by omega
          have hw1 : IntKind.i64.wrap (r.average * 1) = r.average := by rw [Int.mul_one]; exact wrap_i64 (by omega) (by omega)
          have hw0 : IntKind.i64.wrap (1 - 1) = 0 := rfl
          simp only [go_sem, Nat.reduceAdd, Nat.reduceSub, Nat.reduceMul, Nat.reduceEqDiff, Nat.reduceLT, Nat.reduceLeDiff, Nat.reduceBEq, reduceIte, reduceCtorEq, Int.reduceToNat, Int.reduceLE, Int.reduceLT, Int.reduceBEq, Int.reduceBNe, h0, h1, hw1, hw0, Int.zero_add, Int.natCast_zero, ge_iff_le]
          have hwI : IntKind.i64.wrap (0 + 1) = ((0 + 1 : Nat) : Int) := rfl
          by_cases h4 : r.average < F m
          · have hbr : brGt r.average ⟨3, m, F m⟩ = true := by simp [brGt, h4]
            rw [if_pos hbr] at hd
            simp only [go_sem, Nat.reduceAdd, Nat.reduceSub, Nat.reduceMul, Nat.reduceEqDiff, Nat.reduceLT, Nat.reduceLeDiff, Nat.reduceBEq, reduceIte, reduceCtorEq, Int.reduceToNat, Int.reduceLE, Int.reduceLT, Int.reduceBEq, Int.reduceBNe, h4, gt_iff_lt]
            refine ⟨by omega, ?_⟩
            rw [br_snoc, hwI]
            (refine Cl.tr [some 0, some 1, some 2] [] rfl rfl (by simp only [go_sem, Nat.reduceAdd, Nat.reduceSub, Nat.reduceMul, Nat.reduceEqDiff, Nat.reduceLT, Nat.reduceLeDiff, Nat.reduceBEq, reduceIte, reduceCtorEq, Int.reduceToNat, Int.reduceLE, Int.reduceLT, Int.reduceBEq, Int.reduceBNe] <;> rfl) ?_; simp only [go_sem, Nat.reduceAdd, Nat.reduceSub, Nat.reduceMul, Nat.reduceEqDiff, Nat.reduceLT, Nat.reduceLeDiff, Nat.reduceBEq, reduceIte, reduceCtorEq, Int.reduceToNat, Int.reduceLE, Int.reduceLT, Int.reduceBEq, Int.reduceBNe])
            refine Cl.here ⟨⟨0 + 1, F m, W ++ [⟨3, m, F m⟩], by omega, by simpa using hd, by rw [List.length_append, List.length_singleton]; omega, fun h => by omega, fun j' h hj => hnx j' h hj, by simp, rfl⟩, ?_⟩
            simp only [go_sem, Nat.reduceAdd, Nat.reduceSub, Nat.reduceMul, Nat.reduceEqDiff, Nat.reduceLT, Nat.reduceLeDiff, Nat.reduceBEq, reduceIte, reduceCtorEq, Int.reduceToNat, Int.reduceLE, Int.reduceLT, Int.reduceBEq, Int.reduceBNe]
            omega
          · have hbr : ¬ brGt r.average ⟨3, m, F m⟩ = true := by simp [brGt, h4]
            rw [if_neg hbr] at hd
            simp only [go_sem, Nat.reduceAdd, Nat.reduceSub, Nat.reduceMul, Nat.reduceEqDiff, Nat.reduceLT, Nat.reduceLeDiff, Nat.reduceBEq, reduceIte, reduceCtorEq, Int.reduceToNat, Int.reduceLE, Int.reduceLT, Int.reduceBEq, Int.reduceBNe, h4, hwI, gt_iff_lt]
            (refine Cl.tr [some 0, some 1, some 2] [] rfl rfl (by simp only [go_sem, Nat.reduceAdd, Nat.reduceSub, Nat.reduceMul, Nat.reduceEqDiff, Nat.reduceLT, Nat.reduceLeDiff, Nat.reduceBEq, reduceIte, reduceCtorEq, Int.reduceToNat, Int.reduceLE, Int.reduceLT, Int.reduceBEq, Int.reduceBNe] <;> rfl) ?_; simp only [go_sem, Nat.reduceAdd, Nat.reduceSub, Nat.reduceMul, Nat.reduceEqDiff, Nat.reduceLT, Nat.reduceLeDiff, Nat.reduceBEq, reduceIte, reduceCtorEq, Int.reduceToNat, Int.reduceLE, Int.reduceLT, Int.reduceBEq, Int.reduceBNe])
            refine Cl.here ⟨⟨0 + 1, F m, W, by omega, hd, by omega, fun h => by omega, fun j' h hj => hnx j' h hj, rfl, rfl⟩, ?_⟩
            simp only [go_sem, Nat.reduceAdd, Nat.reduceSub, Nat.reduceMul, Nat.reduceEqDiff, Nat.reduceLT, Nat.reduceLeDiff, Nat.reduceBEq, reduceIte, reduceCtorEq, Int.reduceToNat, Int.reduceLE, Int.reduceLT, Int.reduceBEq, Int.reduceBNe]
            omega
        | succ j =>
          have hs := hs1 j (by omega) rfl
          have h0 : ((j + 1 : Nat) : Int) ≥ 1 := by omega
          have h1 : ((j + 1 : Nat) : Int) ≥ 0 := by omega
          have hw1 : IntKind.i64.wrap (r.average * 1) = r.average := by rw [Int.mul_one]; exact wrap_i64 (by omega) (by omega)
          have hw0 : IntKind.i64.wrap (1 - 1) = 0 := rfl
          have hwj : IntKind.i64.wrap (((j + 1 : Nat) : Int) - 1) = (j : Int) := by rw [wrap_i64 (by omega) (by omega)]; omega
          simp only [go_sem, Nat.reduceAdd, Nat.reduceSub, Nat.reduceMul, Nat.reduceEqDiff, Nat.reduceLT, Nat.reduceLeDiff, Nat.reduceBEq, reduceIte, reduceCtorEq, Int.reduceToNat, Int.reduceLE, Int.reduceLT, Int.reduceBEq, Int.reduceBNe, h0, h1, hw1, hw0, hwj]
          refine ⟨by omega, by omega, ?_⟩
          rw [hgm j (by omega)]
          simp only [go_sem, Nat.reduceAdd, Nat.reduceSub, Nat.reduceMul, Nat.reduceEqDiff, Nat.reduceLT, Nat.reduceLeDiff, Nat.reduceBEq, reduceIte, reduceCtorEq, Int.reduceToNat, Int.reduceLE, Int.reduceLT, Int.reduceBEq, Int.reduceBNe, hF]
          have hwd : IntKind.i64.wrap (s + F m - F ms[j]) = F m := by rw [hs, wrap_i64 (by have := hbd ms[j]; omega) (by have := hbd ms[j]; omega)]; omega
          have hwI := hw
          simp only [go_sem, Nat.reduceAdd, Nat.reduceSub, Nat.reduceMul, Nat.reduceEqDiff, Nat.reduceLT, Nat.reduceLeDiff, Nat.reduceBEq, reduceIte, reduceCtorEq, Int.reduceToNat, Int.reduceLE, Int.reduceLT, Int.reduceBEq, Int.reduceBNe, hwd, hw1, hw0, h1]
          by_cases h4 : r.average < F m
          · have hbr : brGt r.average ⟨3, m, F m⟩ = true := by simp [brGt, h4]
            rw [if_pos hbr] at hd
            simp only [go_sem, Nat.reduceAdd, Nat.reduceSub, Nat.reduceMul, Nat.reduceEqDiff, Nat.reduceLT, Nat.reduceLeDiff, Nat.reduceBEq, reduceIte, reduceCtorEq, Int.reduceToNat, Int.reduceLE, Int.reduceLT, Int.reduceBEq, Int.reduceBNe, h4, gt_iff_lt]
            refine ⟨by omega, ?_⟩
            rw [br_snoc, hwI]
            (refine Cl.tr [some 0, some 1, some 2] [] rfl rfl (by simp only [go_sem, Nat.reduceAdd, Nat.reduceSub, Nat.reduceMul, Nat.reduceEqDiff, Nat.reduceLT, Nat.reduceLeDiff, Nat.reduceBEq, reduceIte, reduceCtorEq, Int.reduceToNat, Int.reduceLE, Int.reduceLT, Int.reduceBEq, Int.reduceBNe] <;> rfl) ?_; simp only [go_sem, Nat.reduceAdd, Nat.reduceSub, Nat.reduceMul, Nat.reduceEqDiff, Nat.reduceLT, Nat.reduceLeDiff, Nat.reduceBEq, reduceIte, reduceCtorEq, Int.reduceToNat, Int.reduceLE, Int.reduceLT, Int.reduceBEq, Int.reduceBNe])
            refine Cl.here ⟨⟨(j + 1) + 1, F m, W ++ [⟨3, m, F m⟩], by omega, by simpa using hd, by rw [List.length_append, List.length_singleton]; omega, fun h => by omega, fun j' h hj => hnx j' h hj, by simp, rfl⟩, ?_⟩
            simp only [go_sem, Nat.reduceAdd, Nat.reduceSub, Nat.reduceMul, Nat.reduceEqDiff, Nat.reduceLT, Nat.reduceLeDiff, Nat.reduceBEq, reduceIte, reduceCtorEq, Int.reduceToNat, Int.reduceLE, Int.reduceLT, Int.reduceBEq, Int.reduceBNe]
            omega
          · have hbr : ¬ brGt r.average ⟨3, m, F m⟩ = true := by simp [brGt, h4]
            rw [if_neg hbr] at hd
            simp only [go_sem, Nat.reduceAdd, Nat.reduceSub, Nat.reduceMul, Nat.reduceEqDiff, Nat.reduceLT, Nat.reduceLeDiff, Nat.reduceBEq, reduceIte, reduceCtorEq, Int.reduceToNat, Int.reduceLE, Int.reduceLT, Int.reduceBEq, Int.reduceBNe, h4, hwI, gt_iff_lt]
            (refine Cl.tr [some 0, some 1, some 2] [] rfl rfl (by simp only [go_sem, Nat.reduceAdd, Nat.reduceSub, Nat.reduceMul, Nat.reduceEqDiff, Nat.reduceLT, Nat.reduceLeDiff, Nat.reduceBEq, reduceIte, reduceCtorEq, Int.reduceToNat, Int.reduceLE, Int.reduceLT, Int.reduceBEq, Int.reduceBNe] <;> rfl) ?_; simp only [go_sem, Nat.reduceAdd, Nat.reduceSub, Nat.reduceMul, Nat.reduceEqDiff, Nat.reduceLT, Nat.reduceLeDiff, Nat.reduceBEq, reduceIte, reduceCtorEq, Int.reduceToNat, Int.reduceLE, Int.reduceLT, Int.reduceBEq, Int.reduceBNe])
            refine Cl.here ⟨⟨(j + 1) + 1, F m, W, by omega, hd, by omega, fun h => by omega, fun j' h hj => hnx j' h hj, rfl, rfl⟩, ?_⟩
            simp only [go_sem, Nat.reduceAdd, Nat.reduceSub, Nat.reduceMul, Nat.reduceEqDiff, Nat.reduceLT, Nat.reduceLeDiff, Nat.reduceBEq, reduceIte, reduceCtorEq, Int.reduceToNat, Int.reduceLE, Int.reduceLT, Int.reduceBEq, Int.reduceBNe]
            omega
      · obtain rfl : i = ms.length := by omega
        rw [List.drop_length] at hd
        simp only [List.map_nil, List.filter_nil, List.append_nil] at hd
        (refine Cl.tr [some 2] [] rfl rfl (by simp only [go_sem, Nat.reduceAdd, Nat.reduceSub, Nat.reduceMul, Nat.reduceEqDiff, Nat.reduceLT, Nat.reduceLeDiff, Nat.reduceBEq, reduceIte, reduceCtorEq, Int.reduceToNat, Int.reduceLE, Int.reduceLT, Int.reduceBEq, Int.reduceBNe] <;> rfl) ?_; simp only [go_sem, Nat.reduceAdd, Nat.reduceSub, Nat.reduceMul, Nat.reduceEqDiff, Nat.reduceLT, Nat.reduceLeDiff, Nat.reduceBEq, reduceIte, reduceCtorEq, Int.reduceToNat, Int.reduceLE, Int.reduceLT, Int.reduceBEq, Int.reduceBNe])
        exact Cl.here ⟨W, hd, rfl, rfl⟩

end Go.Proofs.YtaloobgfgehhdaaGreat
