/- Effective of the reference. -/
import Derived.Test.YtodbafiepdcfbaaA5Eff
set_option linter.unusedSimpArgs false
set_option linter.unusedVariables false
set_option linter.unusedSectionVars false
namespace Go.Proofs.Ytodbafiepdcfbaa
open Go Go.Abs
set_option linter.unusedSimpArgs false
set_option linter.unusedVariables false

theorem chk_valid {l : List Ev} (h : chk l = 0) : ∀ e ∈ l, vEv e := by
  unfold chk at h
  split at h
  · omega
  · split at h
    · next h2 =>
      unfold allV at h2
      rw [List.all_eq_true] at h2
      exact fun e he => of_decide_eq_true (h2 e he)
    · omega
theorem forE_take {n : Int} {C : List Ev} {i : Nat} (h : i < C.length) : forE n (C.take (i + 1)) = if C[i].emp = n then forE n (C.take i) ++ [C[i]] else forE n (C.take i) := by
  rw [List.take_succ_eq_append_getElem h, forE_snoc]
theorem tg_eq (y x : Ev) : eqCells [.int .i64 y.tt, .int .i64 y.ts] [.int .i64 x.kt, .int .i64 x.ks] = decide (y.tg = x.key) := eqc_ky y.tg x.key

theorem rEffective_ok (l : List Ev) (hl : l.length ≤ 9223372036854775807) (n : Int) : AFn Try.prog 57 [.pure 7 (els l), .int .i64 n] [] (effQ l n) := by
  refine afnW Try.func57 a57_ok (by simp [a57]) ?_
  unfold effQ
  simp only [go_sem, Nat.reduceAdd, Nat.reduceSub, Nat.reduceMul, Nat.reduceEqDiff, Nat.reduceLT, Nat.reduceLeDiff, Nat.reduceBEq, reduceIte, reduceCtorEq, Int.reduceToNat, Int.reduceLE, Int.reduceLT, Int.reduceBEq, Int.reduceBNe, a57, a57r0, a57r1, a57r2, a57r3, a57r4, a57r5, a57r6, a57r7, a57r8, a57r9, a57r10, a57r11, a57r12, a57r13, a57r14, a57r15, a57r16, a57r17, a57r18, a57r19, a57r20, a57r21, a57r22, a57r23, a57r24, a57r25, a57r26, a57r27, a57r28]
  repeat (refine Cl.here ?_; simp only [go_sem, Nat.reduceAdd, Nat.reduceSub, Nat.reduceMul, Nat.reduceEqDiff, Nat.reduceLT, Nat.reduceLeDiff, Nat.reduceBEq, reduceIte, reduceCtorEq, Int.reduceToNat, Int.reduceLE, Int.reduceLT, Int.reduceBEq, Int.reduceBNe])
  refine callC_det (rCheck_ok l hl) rfl rfl ?_
  by_cases hc : chk l = 0
  rotate_left
  · have hb : (chk l != 0) = true := by simpa using hc
    simp only [go_sem, Nat.reduceAdd, Nat.reduceSub, Nat.reduceMul, Nat.reduceEqDiff, Nat.reduceLT, Nat.reduceLeDiff, Nat.reduceBEq, reduceIte, reduceCtorEq, Int.reduceToNat, Int.reduceLE, Int.reduceLT, Int.reduceBEq, Int.reduceBNe]
    repeat (refine Cl.here ?_; simp only [go_sem, Nat.reduceAdd, Nat.reduceSub, Nat.reduceMul, Nat.reduceEqDiff, Nat.reduceLT, Nat.reduceLeDiff, Nat.reduceBEq, reduceIte, reduceCtorEq, Int.reduceToNat, Int.reduceLE, Int.reduceLT, Int.reduceBEq, Int.reduceBNe])
    simp only [go_sem, Nat.reduceAdd, Nat.reduceSub, Nat.reduceMul, Nat.reduceEqDiff, Nat.reduceLT, Nat.reduceLeDiff, Nat.reduceBEq, reduceIte, reduceCtorEq, Int.reduceToNat, Int.reduceLE, Int.reduceLT, Int.reduceBEq, Int.reduceBNe, hb]
    repeat (refine Cl.here ?_; simp only [go_sem, Nat.reduceAdd, Nat.reduceSub, Nat.reduceMul, Nat.reduceEqDiff, Nat.reduceLT, Nat.reduceLeDiff, Nat.reduceBEq, reduceIte, reduceCtorEq, Int.reduceToNat, Int.reduceLE, Int.reduceLT, Int.reduceBEq, Int.reduceBNe])
    exact Cl.fin rfl (.inl ⟨hc, rfl, rfl⟩)
  have hlen := chk_len hc
  have hval : ∀ e ∈ fk (uni l), vEv e := fun e he => chk_valid hc e ((mem_uni l e).1 (mem_fk he))
  rw [hc]
  simp only [go_sem, Nat.reduceAdd, Nat.reduceSub, Nat.reduceMul, Nat.reduceEqDiff, Nat.reduceLT, Nat.reduceLeDiff, Nat.reduceBEq, reduceIte, reduceCtorEq, Int.reduceToNat, Int.reduceLE, Int.reduceLT, Int.reduceBEq, Int.reduceBNe, bne_self_eq_false]
  repeat (refine Cl.here ?_; simp only [go_sem, Nat.reduceAdd, Nat.reduceSub, Nat.reduceMul, Nat.reduceEqDiff, Nat.reduceLT, Nat.reduceLeDiff, Nat.reduceBEq, reduceIte, reduceCtorEq, Int.reduceToNat, Int.reduceLE, Int.reduceLT, Int.reduceBEq, Int.reduceBNe])
  have hasc := fk_asc (strict_uni l)
  have hCl : (fk (uni l)).length ≤ l.length := by
    have h2 : ∀ U : List Ev, (fk U).length ≤ U.length := by
      intro U
      induction U using snoc_ind with
      | h0 => simp [fk]
      | h1 U x ih => rw [fk_snoc]; split <;> simp <;> omega
    have h3 := h2 (uni l)
    have h4 := uni_le l
    omega
  have hC := rCounting_ok l (by omega)
  unfold effF
  generalize fk (uni l) = C at *
  (refine callC_of [] [] (by simp) rfl (bindL_clean _ (by first | rfl | simp only [go_sem, Nat.reduceAdd, Nat.reduceSub, Nat.reduceMul, Nat.reduceEqDiff, Nat.reduceLT, Nat.reduceLeDiff, Nat.reduceBEq, reduceIte, reduceCtorEq, Int.reduceToNat, Int.reduceLE, Int.reduceLT, Int.reduceBEq, Int.reduceBNe])) (hC) ?_; rintro _ _ ⟨rfl, rfl⟩; refine ⟨.inl rfl, ?_⟩; simp only [go_sem, Nat.reduceAdd, Nat.reduceSub, Nat.reduceMul, Nat.reduceEqDiff, Nat.reduceLT, Nat.reduceLeDiff, Nat.reduceBEq, reduceIte, reduceCtorEq, Int.reduceToNat, Int.reduceLE, Int.reduceLT, Int.reduceBEq, Int.reduceBNe])
  (refine Cl.frz [] [ 0] rfl rfl (by simp only [go_sem, Nat.reduceAdd, Nat.reduceSub, Nat.reduceMul, Nat.reduceEqDiff, Nat.reduceLT, Nat.reduceLeDiff, Nat.reduceBEq, reduceIte, reduceCtorEq, Int.reduceToNat, Int.reduceLE, Int.reduceLT, Int.reduceBEq, Int.reduceBNe] <;> rfl) ?_; simp only [go_sem, Nat.reduceAdd, Nat.reduceSub, Nat.reduceMul, Nat.reduceEqDiff, Nat.reduceLT, Nat.reduceLeDiff, Nat.reduceBEq, reduceIte, reduceCtorEq, Int.reduceToNat, Int.reduceLE, Int.reduceLT, Int.reduceBEq, Int.reduceBNe])
  generalize hFF : forE n C = F at *
  repeat (refine Cl.here ?_; simp only [go_sem, Nat.reduceAdd, Nat.reduceSub, Nat.reduceMul, Nat.reduceEqDiff, Nat.reduceLT, Nat.reduceLeDiff, Nat.reduceBEq, reduceIte, reduceCtorEq, Int.reduceToNat, Int.reduceLE, Int.reduceLT, Int.reduceBEq, Int.reduceBNe])
  refine avcW_loop (fun env rows => ∃ (i : Nat) (S : List Stamp), i ≤ C.length ∧ S.length ≤ i ∧ S.Perm ((forE n (C.take i)).filterMap (stOf F)) ∧ S.Pairwise sLt ∧ env = [(1, .int .i64 n), (7, .pure 7 (els C)), (8, .own 0 S.length 0 S.length), (9, .int .i64 i)] ∧ rows = [.live 77 4 (els S)])
    (fun env _ => match slot env 9 with | .int _ j => (C.length - j).toNat | _ => 0) ?_ ?_
  · (refine Cl.ghost 8  77  4 rfl (Cl.norm [ 1, 7, 8, 9] ?_); simp only [go_sem, Nat.reduceAdd, Nat.reduceSub, Nat.reduceMul, Nat.reduceEqDiff, Nat.reduceLT, Nat.reduceLeDiff, Nat.reduceBEq, reduceIte, reduceCtorEq, Int.reduceToNat, Int.reduceLE, Int.reduceLT, Int.reduceBEq, Int.reduceBNe])
    exact Cl.here ⟨0, [], by omega, by simp, by simp [forE], by simp, rfl, rfl⟩
  rintro env rows ⟨i, S, hi, hSl, hSp, hSs, rfl, rfl⟩
  have hw1 : IntKind.i64.wrap ((i : Int) + 1) = ((i + 1 : Nat) : Int) := by rw [wrap_i64 (by omega) (by omega)]; omega
  simp only [go_sem, Nat.reduceAdd, Nat.reduceSub, Nat.reduceMul, Nat.reduceEqDiff, Nat.reduceLT, Nat.reduceLeDiff, Nat.reduceBEq, reduceIte, reduceCtorEq, Int.reduceToNat, Int.reduceLE, Int.reduceLT, Int.reduceBEq, Int.reduceBNe, a57, a57r0, a57r1, a57r2, a57r3, a57r4, a57r5, a57r6, a57r7, a57r8, a57r9, a57r10, a57r11, a57r12, a57r13, a57r14, a57r15, a57r16, a57r17, a57r18, a57r19, a57r20, a57r21, a57r22, a57r23, a57r24, a57r25, a57r26, a57r27, a57r28]
  repeat (refine Cl.here ?_; simp only [go_sem, Nat.reduceAdd, Nat.reduceSub, Nat.reduceMul, Nat.reduceEqDiff, Nat.reduceLT, Nat.reduceLeDiff, Nat.reduceBEq, reduceIte, reduceCtorEq, Int.reduceToNat, Int.reduceLE, Int.reduceLT, Int.reduceBEq, Int.reduceBNe])
  refine condW_intro ?_ ?_ <;> intro hg <;> simp only [decide_eq_true_eq, decide_eq_false_iff_not, beq_iff_eq, beq_eq_false_iff_ne, bne_iff_ne, bne_eq_false_iff_eq, Bool.not_eq_true', Bool.not_eq_false', Int.not_lt, Int.not_le, ne_eq, Bool.and_eq_true, Bool.or_eq_true, Bool.or_eq_false_iff, Bool.and_eq_false_iff] at hg <;> simp only [go_sem, Nat.reduceAdd, Nat.reduceSub, Nat.reduceMul, Nat.reduceEqDiff, Nat.reduceLT, Nat.reduceLeDiff, Nat.reduceBEq, reduceIte, reduceCtorEq, Int.reduceToNat, Int.reduceLE, Int.reduceLT, Int.reduceBEq, Int.reduceBNe, a57, a57r0, a57r1, a57r2, a57r3, a57r4, a57r5, a57r6, a57r7, a57r8, a57r9, a57r10, a57r11, a57r12, a57r13, a57r14, a57r15, a57r16, a57r17, a57r18, a57r19, a57r20, a57r21, a57r22, a57r23, a57r24, a57r25, a57r26, a57r27, a57r28]
  rotate_left
  · have ht : C.take i = C := List.take_of_length_le (by omega)
    rw [ht, hFF] at hSp
    repeat (refine Cl.here ?_; simp only [go_sem, Nat.reduceAdd, Nat.reduceSub, Nat.reduceMul, Nat.reduceEqDiff, Nat.reduceLT, Nat.reduceLeDiff, Nat.reduceBEq, reduceIte, reduceCtorEq, Int.reduceToNat, Int.reduceLE, Int.reduceLT, Int.reduceBEq, Int.reduceBNe])
    exact Cl.here (.inr ⟨S, hSp, hSs, rfl, rfl⟩)
  have hlt : i < C.length := by omega
  have h0 : (0 : Int) ≤ i := by omega
  have h1 : (i : Int) < C.length := by omega
  have g1 : (els C).getD i [] = Cel.c C[i] := els_getD hlt
  have hft := forE_take (n := n) hlt
  have hvx := hval _ (List.getElem_mem hlt)
  have hkeys : ∀ s ∈ S, kLt s.key C[i].key := by
    intro s hs
    have hs2 := hSp.mem_iff.1 hs
    obtain ⟨y, hy, hys⟩ := List.mem_filterMap.1 hs2
    rw [(stOf_key hys).1]
    have hy2 : y ∈ C.take i := (List.mem_filter.1 hy).1
    obtain ⟨q, hq, rfl⟩ := List.mem_iff_getElem.1 hy2
    rw [List.length_take] at hq
    rw [List.getElem_take]
    exact List.pairwise_iff_getElem.1 hasc q i (by omega) hlt (by omega)
  generalize C[i] = x at *
  (refine Cl.here ?_; simp only [go_sem, Nat.reduceAdd, Nat.reduceSub, Nat.reduceMul, Nat.reduceEqDiff, Nat.reduceLT, Nat.reduceLeDiff, Nat.reduceBEq, reduceIte, reduceCtorEq, Int.reduceToNat, Int.reduceLE, Int.reduceLT, Int.reduceBEq, Int.reduceBNe])
  simp only [go_sem, Nat.reduceAdd, Nat.reduceSub, Nat.reduceMul, Nat.reduceEqDiff, Nat.reduceLT, Nat.reduceLeDiff, Nat.reduceBEq, reduceIte, reduceCtorEq, Int.reduceToNat, Int.reduceLE, Int.reduceLT, Int.reduceBEq, Int.reduceBNe, h0, h1, g1, cel_ev]
  have hskip : (x.emp ≠ n ∨ stOf F x = none) → (forE n (C.take (i + 1))).filterMap (stOf F) = (forE n (C.take i)).filterMap (stOf F) := by
    intro h
    rw [hft]
    rcases h with h | h
    · rw [if_neg h]
    · split
      · rw [List.filterMap_append]; simp [h]
      · rfl
  by_cases hn : x.emp = n
  rotate_left
  · have hb : (x.emp != n) = true := by simpa using hn
    have hsk := hskip (.inl hn)
    (refine Cl.here ?_; simp only [go_sem, Nat.reduceAdd, Nat.reduceSub, Nat.reduceMul, Nat.reduceEqDiff, Nat.reduceLT, Nat.reduceLeDiff, Nat.reduceBEq, reduceIte, reduceCtorEq, Int.reduceToNat, Int.reduceLE, Int.reduceLT, Int.reduceBEq, Int.reduceBNe])
    simp only [go_sem, Nat.reduceAdd, Nat.reduceSub, Nat.reduceMul, Nat.reduceEqDiff, Nat.reduceLT, Nat.reduceLeDiff, Nat.reduceBEq, reduceIte, reduceCtorEq, Int.reduceToNat, Int.reduceLE, Int.reduceLT, Int.reduceBEq, Int.reduceBNe, hb]
    (refine Cl.tr [some 0] [] rfl rfl (by simp only [go_sem, Nat.reduceAdd, Nat.reduceSub, Nat.reduceMul, Nat.reduceEqDiff, Nat.reduceLT, Nat.reduceLeDiff, Nat.reduceBEq, reduceIte, reduceCtorEq, Int.reduceToNat, Int.reduceLE, Int.reduceLT, Int.reduceBEq, Int.reduceBNe] <;> rfl) ?_; simp only [go_sem, Nat.reduceAdd, Nat.reduceSub, Nat.reduceMul, Nat.reduceEqDiff, Nat.reduceLT, Nat.reduceLeDiff, Nat.reduceBEq, reduceIte, reduceCtorEq, Int.reduceToNat, Int.reduceLE, Int.reduceLT, Int.reduceBEq, Int.reduceBNe])
    repeat (refine Cl.here ?_; simp only [go_sem, Nat.reduceAdd, Nat.reduceSub, Nat.reduceMul, Nat.reduceEqDiff, Nat.reduceLT, Nat.reduceLeDiff, Nat.reduceBEq, reduceIte, reduceCtorEq, Int.reduceToNat, Int.reduceLE, Int.reduceLT, Int.reduceBEq, Int.reduceBNe])
    simp only [go_sem, Nat.reduceAdd, Nat.reduceSub, Nat.reduceMul, Nat.reduceEqDiff, Nat.reduceLT, Nat.reduceLeDiff, Nat.reduceBEq, reduceIte, reduceCtorEq, Int.reduceToNat, Int.reduceLE, Int.reduceLT, Int.reduceBEq, Int.reduceBNe, hw1]
    exact ⟨⟨i + 1, S, by omega, by omega, by rw [hsk]; exact hSp, hSs, rfl, rfl⟩, by omega⟩
  have hb : (x.emp != n) = false := by simpa using hn
  by_cases hk4 : 4 < x.kind
  · have hb2 : decide (4 < x.kind) = true := decide_eq_true hk4
    have hno : stOf F x = none := by
      unfold stOf
      rw [if_pos]
      unfold vEv at hvx
      omega
    have hsk := hskip (.inr hno)
    (refine Cl.here ?_; simp only [go_sem, Nat.reduceAdd, Nat.reduceSub, Nat.reduceMul, Nat.reduceEqDiff, Nat.reduceLT, Nat.reduceLeDiff, Nat.reduceBEq, reduceIte, reduceCtorEq, Int.reduceToNat, Int.reduceLE, Int.reduceLT, Int.reduceBEq, Int.reduceBNe])
    simp only [go_sem, Nat.reduceAdd, Nat.reduceSub, Nat.reduceMul, Nat.reduceEqDiff, Nat.reduceLT, Nat.reduceLeDiff, Nat.reduceBEq, reduceIte, reduceCtorEq, Int.reduceToNat, Int.reduceLE, Int.reduceLT, Int.reduceBEq, Int.reduceBNe, hb, hb2]
    (refine Cl.tr [some 0] [] rfl rfl (by simp only [go_sem, Nat.reduceAdd, Nat.reduceSub, Nat.reduceMul, Nat.reduceEqDiff, Nat.reduceLT, Nat.reduceLeDiff, Nat.reduceBEq, reduceIte, reduceCtorEq, Int.reduceToNat, Int.reduceLE, Int.reduceLT, Int.reduceBEq, Int.reduceBNe] <;> rfl) ?_; simp only [go_sem, Nat.reduceAdd, Nat.reduceSub, Nat.reduceMul, Nat.reduceEqDiff, Nat.reduceLT, Nat.reduceLeDiff, Nat.reduceBEq, reduceIte, reduceCtorEq, Int.reduceToNat, Int.reduceLE, Int.reduceLT, Int.reduceBEq, Int.reduceBNe])
    repeat (refine Cl.here ?_; simp only [go_sem, Nat.reduceAdd, Nat.reduceSub, Nat.reduceMul, Nat.reduceEqDiff, Nat.reduceLT, Nat.reduceLeDiff, Nat.reduceBEq, reduceIte, reduceCtorEq, Int.reduceToNat, Int.reduceLE, Int.reduceLT, Int.reduceBEq, Int.reduceBNe])
    simp only [go_sem, Nat.reduceAdd, Nat.reduceSub, Nat.reduceMul, Nat.reduceEqDiff, Nat.reduceLT, Nat.reduceLeDiff, Nat.reduceBEq, reduceIte, reduceCtorEq, Int.reduceToNat, Int.reduceLE, Int.reduceLT, Int.reduceBEq, Int.reduceBNe, hw1]
    exact ⟨⟨i + 1, S, by omega, by omega, by rw [hsk]; exact hSp, hSs, rfl, rfl⟩, by omega⟩
  have hb2 : decide (4 < x.kind) = false := decide_eq_false hk4
  (refine Cl.here ?_; simp only [go_sem, Nat.reduceAdd, Nat.reduceSub, Nat.reduceMul, Nat.reduceEqDiff, Nat.reduceLT, Nat.reduceLeDiff, Nat.reduceBEq, reduceIte, reduceCtorEq, Int.reduceToNat, Int.reduceLE, Int.reduceLT, Int.reduceBEq, Int.reduceBNe])
  simp only [go_sem, Nat.reduceAdd, Nat.reduceSub, Nat.reduceMul, Nat.reduceEqDiff, Nat.reduceLT, Nat.reduceLeDiff, Nat.reduceBEq, reduceIte, reduceCtorEq, Int.reduceToNat, Int.reduceLE, Int.reduceLT, Int.reduceBEq, Int.reduceBNe, hb, hb2]
  repeat (refine Cl.here ?_; simp only [go_sem, Nat.reduceAdd, Nat.reduceSub, Nat.reduceMul, Nat.reduceEqDiff, Nat.reduceLT, Nat.reduceLeDiff, Nat.reduceBEq, reduceIte, reduceCtorEq, Int.reduceToNat, Int.reduceLE, Int.reduceLT, Int.reduceBEq, Int.reduceBNe])
  refine avcW_loop (fun env rows => ∃ (k : Nat), k ≤ C.length ∧ env = [(1, .int .i64 n), (7, .pure 7 (els C)), (8, .own 0 S.length 0 S.length), (9, .int .i64 i), (10, .ref 1 1 0 0), (11, .bool (canc (forE n (C.take k)) x.key)), (12, .int .i64 k)] ∧ rows = [.live 77 4 (els S), .live 64 7 [[.int .i64 x.kt, .int .i64 x.ks, .int .i64 x.emp, .int .i64 ((corr (forE n (C.take k)) x.key).getD x.time), .int .i64 x.kind, .int .i64 x.tt, .int .i64 x.ts]]])
    (fun env _ => match slot env 12 with | .int _ j => (C.length - j).toNat | _ => 0) ?_ ?_
  · exact Cl.here ⟨0, by omega, rfl, rfl⟩
  rintro env rows ⟨k, hk, rfl, rfl⟩
  have hwk : IntKind.i64.wrap ((k : Int) + 1) = ((k + 1 : Nat) : Int) := by rw [wrap_i64 (by omega) (by omega)]; omega
  simp only [go_sem, Nat.reduceAdd, Nat.reduceSub, Nat.reduceMul, Nat.reduceEqDiff, Nat.reduceLT, Nat.reduceLeDiff, Nat.reduceBEq, reduceIte, reduceCtorEq, Int.reduceToNat, Int.reduceLE, Int.reduceLT, Int.reduceBEq, Int.reduceBNe, a57, a57r0, a57r1, a57r2, a57r3, a57r4, a57r5, a57r6, a57r7, a57r8, a57r9, a57r10, a57r11, a57r12, a57r13, a57r14, a57r15, a57r16, a57r17, a57r18, a57r19, a57r20, a57r21, a57r22, a57r23, a57r24, a57r25, a57r26, a57r27, a57r28]
  repeat (refine Cl.here ?_; simp only [go_sem, Nat.reduceAdd, Nat.reduceSub, Nat.reduceMul, Nat.reduceEqDiff, Nat.reduceLT, Nat.reduceLeDiff, Nat.reduceBEq, reduceIte, reduceCtorEq, Int.reduceToNat, Int.reduceLE, Int.reduceLT, Int.reduceBEq, Int.reduceBNe])
  refine condW_intro ?_ ?_ <;> intro hg2 <;> simp only [decide_eq_true_eq, decide_eq_false_iff_not, beq_iff_eq, beq_eq_false_iff_ne, bne_iff_ne, bne_eq_false_iff_eq, Bool.not_eq_true', Bool.not_eq_false', Int.not_lt, Int.not_le, ne_eq, Bool.and_eq_true, Bool.or_eq_true, Bool.or_eq_false_iff, Bool.and_eq_false_iff] at hg2 <;> simp only [go_sem, Nat.reduceAdd, Nat.reduceSub, Nat.reduceMul, Nat.reduceEqDiff, Nat.reduceLT, Nat.reduceLeDiff, Nat.reduceBEq, reduceIte, reduceCtorEq, Int.reduceToNat, Int.reduceLE, Int.reduceLT, Int.reduceBEq, Int.reduceBNe, a57, a57r0, a57r1, a57r2, a57r3, a57r4, a57r5, a57r6, a57r7, a57r8, a57r9, a57r10, a57r11, a57r12, a57r13, a57r14, a57r15, a57r16, a57r17, a57r18, a57r19, a57r20, a57r21, a57r22, a57r23, a57r24, a57r25, a57r26, a57r27, a57r28]
  · have hltk : k < C.length := by omega
    have z0 : (0 : Int) ≤ k := by omega
    have z1 : (k : Int) < C.length := by omega
    have gz : (els C).getD k [] = Cel.c C[k] := els_getD hltk
    have hft2 := forE_take (n := n) hltk
    generalize C[k] = y at *
    have hcs := canc_snoc (forE n (C.take k)) y x.key
    have hks := corr_snoc (forE n (C.take k)) y x.key
    generalize forE n (C.take k) = G at *
    (refine Cl.here ?_; simp only [go_sem, Nat.reduceAdd, Nat.reduceSub, Nat.reduceMul, Nat.reduceEqDiff, Nat.reduceLT, Nat.reduceLeDiff, Nat.reduceBEq, reduceIte, reduceCtorEq, Int.reduceToNat, Int.reduceLE, Int.reduceLT, Int.reduceBEq, Int.reduceBNe])
    simp only [go_sem, Nat.reduceAdd, Nat.reduceSub, Nat.reduceMul, Nat.reduceEqDiff, Nat.reduceLT, Nat.reduceLeDiff, Nat.reduceBEq, reduceIte, reduceCtorEq, Int.reduceToNat, Int.reduceLE, Int.reduceLT, Int.reduceBEq, Int.reduceBNe, z0, z1, gz, cel_ev]
    by_cases hny : y.emp = n
    rotate_left
    · have hby : (y.emp == n) = false := beq_eq_false_iff_ne.2 hny
      rw [if_neg hny] at hft2
      (refine Cl.here ?_; simp only [go_sem, Nat.reduceAdd, Nat.reduceSub, Nat.reduceMul, Nat.reduceEqDiff, Nat.reduceLT, Nat.reduceLeDiff, Nat.reduceBEq, reduceIte, reduceCtorEq, Int.reduceToNat, Int.reduceLE, Int.reduceLT, Int.reduceBEq, Int.reduceBNe])
      simp only [go_sem, Nat.reduceAdd, Nat.reduceSub, Nat.reduceMul, Nat.reduceEqDiff, Nat.reduceLT, Nat.reduceLeDiff, Nat.reduceBEq, reduceIte, reduceCtorEq, Int.reduceToNat, Int.reduceLE, Int.reduceLT, Int.reduceBEq, Int.reduceBNe, hby]
      (refine Cl.tr [some 0, some 1] [] rfl rfl (by simp only [go_sem, Nat.reduceAdd, Nat.reduceSub, Nat.reduceMul, Nat.reduceEqDiff, Nat.reduceLT, Nat.reduceLeDiff, Nat.reduceBEq, reduceIte, reduceCtorEq, Int.reduceToNat, Int.reduceLE, Int.reduceLT, Int.reduceBEq, Int.reduceBNe] <;> rfl) ?_; simp only [go_sem, Nat.reduceAdd, Nat.reduceSub, Nat.reduceMul, Nat.reduceEqDiff, Nat.reduceLT, Nat.reduceLeDiff, Nat.reduceBEq, reduceIte, reduceCtorEq, Int.reduceToNat, Int.reduceLE, Int.reduceLT, Int.reduceBEq, Int.reduceBNe])
      repeat (refine Cl.here ?_; simp only [go_sem, Nat.reduceAdd, Nat.reduceSub, Nat.reduceMul, Nat.reduceEqDiff, Nat.reduceLT, Nat.reduceLeDiff, Nat.reduceBEq, reduceIte, reduceCtorEq, Int.reduceToNat, Int.reduceLE, Int.reduceLT, Int.reduceBEq, Int.reduceBNe])
      simp only [go_sem, Nat.reduceAdd, Nat.reduceSub, Nat.reduceMul, Nat.reduceEqDiff, Nat.reduceLT, Nat.reduceLeDiff, Nat.reduceBEq, reduceIte, reduceCtorEq, Int.reduceToNat, Int.reduceLE, Int.reduceLT, Int.reduceBEq, Int.reduceBNe, hwk]
      exact ⟨⟨k + 1, by omega, by rw [hft2], by rw [hft2]⟩, by omega⟩
    have hby : (y.emp == n) = true := beq_iff_eq.2 hny
    rw [if_pos hny] at hft2
    by_cases htg : y.tg = x.key
    rotate_left
    · have hdt : decide (y.tg = x.key) = false := decide_eq_false htg
      rw [if_neg (fun h => htg h.2)] at hks
      have hcs2 : canc (G ++ [y]) x.key = canc G x.key := by rw [hcs]; simp [htg]
      (refine Cl.here ?_; simp only [go_sem, Nat.reduceAdd, Nat.reduceSub, Nat.reduceMul, Nat.reduceEqDiff, Nat.reduceLT, Nat.reduceLeDiff, Nat.reduceBEq, reduceIte, reduceCtorEq, Int.reduceToNat, Int.reduceLE, Int.reduceLT, Int.reduceBEq, Int.reduceBNe])
      simp only [go_sem, Nat.reduceAdd, Nat.reduceSub, Nat.reduceMul, Nat.reduceEqDiff, Nat.reduceLT, Nat.reduceLeDiff, Nat.reduceBEq, reduceIte, reduceCtorEq, Int.reduceToNat, Int.reduceLE, Int.reduceLT, Int.reduceBEq, Int.reduceBNe, hby, fits2, tg_eq, hdt]
      (refine Cl.tr [some 0, some 1] [] rfl rfl (by simp only [go_sem, Nat.reduceAdd, Nat.reduceSub, Nat.reduceMul, Nat.reduceEqDiff, Nat.reduceLT, Nat.reduceLeDiff, Nat.reduceBEq, reduceIte, reduceCtorEq, Int.reduceToNat, Int.reduceLE, Int.reduceLT, Int.reduceBEq, Int.reduceBNe] <;> rfl) ?_; simp only [go_sem, Nat.reduceAdd, Nat.reduceSub, Nat.reduceMul, Nat.reduceEqDiff, Nat.reduceLT, Nat.reduceLeDiff, Nat.reduceBEq, reduceIte, reduceCtorEq, Int.reduceToNat, Int.reduceLE, Int.reduceLT, Int.reduceBEq, Int.reduceBNe])
      repeat (refine Cl.here ?_; simp only [go_sem, Nat.reduceAdd, Nat.reduceSub, Nat.reduceMul, Nat.reduceEqDiff, Nat.reduceLT, Nat.reduceLeDiff, Nat.reduceBEq, reduceIte, reduceCtorEq, Int.reduceToNat, Int.reduceLE, Int.reduceLT, Int.reduceBEq, Int.reduceBNe])
      simp only [go_sem, Nat.reduceAdd, Nat.reduceSub, Nat.reduceMul, Nat.reduceEqDiff, Nat.reduceLT, Nat.reduceLeDiff, Nat.reduceBEq, reduceIte, reduceCtorEq, Int.reduceToNat, Int.reduceLE, Int.reduceLT, Int.reduceBEq, Int.reduceBNe, hwk]
      exact ⟨⟨k + 1, by omega, by rw [hft2, hcs2], by rw [hft2, hks]⟩, by omega⟩
    have hdt : decide (y.tg = x.key) = true := decide_eq_true htg
    (refine Cl.here ?_; simp only [go_sem, Nat.reduceAdd, Nat.reduceSub, Nat.reduceMul, Nat.reduceEqDiff, Nat.reduceLT, Nat.reduceLeDiff, Nat.reduceBEq, reduceIte, reduceCtorEq, Int.reduceToNat, Int.reduceLE, Int.reduceLT, Int.reduceBEq, Int.reduceBNe])
    simp only [go_sem, Nat.reduceAdd, Nat.reduceSub, Nat.reduceMul, Nat.reduceEqDiff, Nat.reduceLT, Nat.reduceLeDiff, Nat.reduceBEq, reduceIte, reduceCtorEq, Int.reduceToNat, Int.reduceLE, Int.reduceLT, Int.reduceBEq, Int.reduceBNe, hby, fits2, tg_eq, hdt]
    by_cases h5 : y.kind = 5
    · have b5 : (y.kind == 5) = true := beq_iff_eq.2 h5
      have b6 : (y.kind == 6) = false := beq_eq_false_iff_ne.2 (by omega)
      rw [if_neg (fun h => by omega)] at hks
      have hcs2 : canc (G ++ [y]) x.key = true := by rw [hcs]; simp [htg, h5]
      cases hcg : canc G x.key
      · (refine Cl.here ?_; simp only [go_sem, Nat.reduceAdd, Nat.reduceSub, Nat.reduceMul, Nat.reduceEqDiff, Nat.reduceLT, Nat.reduceLeDiff, Nat.reduceBEq, reduceIte, reduceCtorEq, Int.reduceToNat, Int.reduceLE, Int.reduceLT, Int.reduceBEq, Int.reduceBNe])
        simp only [go_sem, Nat.reduceAdd, Nat.reduceSub, Nat.reduceMul, Nat.reduceEqDiff, Nat.reduceLT, Nat.reduceLeDiff, Nat.reduceBEq, reduceIte, reduceCtorEq, Int.reduceToNat, Int.reduceLE, Int.reduceLT, Int.reduceBEq, Int.reduceBNe, b5]
        (refine Cl.here ?_; simp only [go_sem, Nat.reduceAdd, Nat.reduceSub, Nat.reduceMul, Nat.reduceEqDiff, Nat.reduceLT, Nat.reduceLeDiff, Nat.reduceBEq, reduceIte, reduceCtorEq, Int.reduceToNat, Int.reduceLE, Int.reduceLT, Int.reduceBEq, Int.reduceBNe])
        simp only [go_sem, Nat.reduceAdd, Nat.reduceSub, Nat.reduceMul, Nat.reduceEqDiff, Nat.reduceLT, Nat.reduceLeDiff, Nat.reduceBEq, reduceIte, reduceCtorEq, Int.reduceToNat, Int.reduceLE, Int.reduceLT, Int.reduceBEq, Int.reduceBNe, b6]
        (refine Cl.tr [some 0, some 1] [] rfl rfl (by simp only [go_sem, Nat.reduceAdd, Nat.reduceSub, Nat.reduceMul, Nat.reduceEqDiff, Nat.reduceLT, Nat.reduceLeDiff, Nat.reduceBEq, reduceIte, reduceCtorEq, Int.reduceToNat, Int.reduceLE, Int.reduceLT, Int.reduceBEq, Int.reduceBNe] <;> rfl) ?_; simp only [go_sem, Nat.reduceAdd, Nat.reduceSub, Nat.reduceMul, Nat.reduceEqDiff, Nat.reduceLT, Nat.reduceLeDiff, Nat.reduceBEq, reduceIte, reduceCtorEq, Int.reduceToNat, Int.reduceLE, Int.reduceLT, Int.reduceBEq, Int.reduceBNe])
        repeat (refine Cl.here ?_; simp only [go_sem, Nat.reduceAdd, Nat.reduceSub, Nat.reduceMul, Nat.reduceEqDiff, Nat.reduceLT, Nat.reduceLeDiff, Nat.reduceBEq, reduceIte, reduceCtorEq, Int.reduceToNat, Int.reduceLE, Int.reduceLT, Int.reduceBEq, Int.reduceBNe])
        simp only [go_sem, Nat.reduceAdd, Nat.reduceSub, Nat.reduceMul, Nat.reduceEqDiff, Nat.reduceLT, Nat.reduceLeDiff, Nat.reduceBEq, reduceIte, reduceCtorEq, Int.reduceToNat, Int.reduceLE, Int.reduceLT, Int.reduceBEq, Int.reduceBNe, hwk]
        exact ⟨⟨k + 1, by omega, by rw [hft2, hcs2], by rw [hft2, hks]⟩, by omega⟩
      · (refine Cl.here ?_; simp only [go_sem, Nat.reduceAdd, Nat.reduceSub, Nat.reduceMul, Nat.reduceEqDiff, Nat.reduceLT, Nat.reduceLeDiff, Nat.reduceBEq, reduceIte, reduceCtorEq, Int.reduceToNat, Int.reduceLE, Int.reduceLT, Int.reduceBEq, Int.reduceBNe])
        (refine Cl.here ?_; simp only [go_sem, Nat.reduceAdd, Nat.reduceSub, Nat.reduceMul, Nat.reduceEqDiff, Nat.reduceLT, Nat.reduceLeDiff, Nat.reduceBEq, reduceIte, reduceCtorEq, Int.reduceToNat, Int.reduceLE, Int.reduceLT, Int.reduceBEq, Int.reduceBNe])
        simp only [go_sem, Nat.reduceAdd, Nat.reduceSub, Nat.reduceMul, Nat.reduceEqDiff, Nat.reduceLT, Nat.reduceLeDiff, Nat.reduceBEq, reduceIte, reduceCtorEq, Int.reduceToNat, Int.reduceLE, Int.reduceLT, Int.reduceBEq, Int.reduceBNe, b6]
        (refine Cl.tr [some 0, some 1] [] rfl rfl (by simp only [go_sem, Nat.reduceAdd, Nat.reduceSub, Nat.reduceMul, Nat.reduceEqDiff, Nat.reduceLT, Nat.reduceLeDiff, Nat.reduceBEq, reduceIte, reduceCtorEq, Int.reduceToNat, Int.reduceLE, Int.reduceLT, Int.reduceBEq, Int.reduceBNe] <;> rfl) ?_; simp only [go_sem, Nat.reduceAdd, Nat.reduceSub, Nat.reduceMul, Nat.reduceEqDiff, Nat.reduceLT, Nat.reduceLeDiff, Nat.reduceBEq, reduceIte, reduceCtorEq, Int.reduceToNat, Int.reduceLE, Int.reduceLT, Int.reduceBEq, Int.reduceBNe])
        repeat (refine Cl.here ?_; simp only [go_sem, Nat.reduceAdd, Nat.reduceSub, Nat.reduceMul, Nat.reduceEqDiff, Nat.reduceLT, Nat.reduceLeDiff, Nat.reduceBEq, reduceIte, reduceCtorEq, Int.reduceToNat, Int.reduceLE, Int.reduceLT, Int.reduceBEq, Int.reduceBNe])
        simp only [go_sem, Nat.reduceAdd, Nat.reduceSub, Nat.reduceMul, Nat.reduceEqDiff, Nat.reduceLT, Nat.reduceLeDiff, Nat.reduceBEq, reduceIte, reduceCtorEq, Int.reduceToNat, Int.reduceLE, Int.reduceLT, Int.reduceBEq, Int.reduceBNe, hwk]
        exact ⟨⟨k + 1, by omega, by rw [hft2, hcs2], by rw [hft2, hks]⟩, by omega⟩
    have b5 : (y.kind == 5) = false := beq_eq_false_iff_ne.2 h5
    have hcs2 : canc (G ++ [y]) x.key = canc G x.key := by rw [hcs]; simp [h5]
    by_cases h6 : y.kind = 6
    · have b6 : (y.kind == 6) = true := beq_iff_eq.2 h6
      rw [if_pos ⟨h6, htg⟩] at hks
      cases hcg : canc G x.key
      · (refine Cl.here ?_; simp only [go_sem, Nat.reduceAdd, Nat.reduceSub, Nat.reduceMul, Nat.reduceEqDiff, Nat.reduceLT, Nat.reduceLeDiff, Nat.reduceBEq, reduceIte, reduceCtorEq, Int.reduceToNat, Int.reduceLE, Int.reduceLT, Int.reduceBEq, Int.reduceBNe])
        simp only [go_sem, Nat.reduceAdd, Nat.reduceSub, Nat.reduceMul, Nat.reduceEqDiff, Nat.reduceLT, Nat.reduceLeDiff, Nat.reduceBEq, reduceIte, reduceCtorEq, Int.reduceToNat, Int.reduceLE, Int.reduceLT, Int.reduceBEq, Int.reduceBNe, b5]
        (refine Cl.here ?_; simp only [go_sem, Nat.reduceAdd, Nat.reduceSub, Nat.reduceMul, Nat.reduceEqDiff, Nat.reduceLT, Nat.reduceLeDiff, Nat.reduceBEq, reduceIte, reduceCtorEq, Int.reduceToNat, Int.reduceLE, Int.reduceLT, Int.reduceBEq, Int.reduceBNe])
        simp only [go_sem, Nat.reduceAdd, Nat.reduceSub, Nat.reduceMul, Nat.reduceEqDiff, Nat.reduceLT, Nat.reduceLeDiff, Nat.reduceBEq, reduceIte, reduceCtorEq, Int.reduceToNat, Int.reduceLE, Int.reduceLT, Int.reduceBEq, Int.reduceBNe, b6]
        (refine Cl.here ?_; simp only [go_sem, Nat.reduceAdd, Nat.reduceSub, Nat.reduceMul, Nat.reduceEqDiff, Nat.reduceLT, Nat.reduceLeDiff, Nat.reduceBEq, reduceIte, reduceCtorEq, Int.reduceToNat, Int.reduceLE, Int.reduceLT, Int.reduceBEq, Int.reduceBNe])
        (refine Cl.tr [some 0, some 1] [] rfl rfl (by simp only [go_sem, Nat.reduceAdd, Nat.reduceSub, Nat.reduceMul, Nat.reduceEqDiff, Nat.reduceLT, Nat.reduceLeDiff, Nat.reduceBEq, reduceIte, reduceCtorEq, Int.reduceToNat, Int.reduceLE, Int.reduceLT, Int.reduceBEq, Int.reduceBNe] <;> rfl) ?_; simp only [go_sem, Nat.reduceAdd, Nat.reduceSub, Nat.reduceMul, Nat.reduceEqDiff, Nat.reduceLT, Nat.reduceLeDiff, Nat.reduceBEq, reduceIte, reduceCtorEq, Int.reduceToNat, Int.reduceLE, Int.reduceLT, Int.reduceBEq, Int.reduceBNe])
        repeat (refine Cl.here ?_; simp only [go_sem, Nat.reduceAdd, Nat.reduceSub, Nat.reduceMul, Nat.reduceEqDiff, Nat.reduceLT, Nat.reduceLeDiff, Nat.reduceBEq, reduceIte, reduceCtorEq, Int.reduceToNat, Int.reduceLE, Int.reduceLT, Int.reduceBEq, Int.reduceBNe])
        simp only [go_sem, Nat.reduceAdd, Nat.reduceSub, Nat.reduceMul, Nat.reduceEqDiff, Nat.reduceLT, Nat.reduceLeDiff, Nat.reduceBEq, reduceIte, reduceCtorEq, Int.reduceToNat, Int.reduceLE, Int.reduceLT, Int.reduceBEq, Int.reduceBNe, hwk]
        exact ⟨⟨k + 1, by omega, by rw [hft2, hcs2, hcg], by rw [hft2, hks]; rfl⟩, by omega⟩
      · (refine Cl.here ?_; simp only [go_sem, Nat.reduceAdd, Nat.reduceSub, Nat.reduceMul, Nat.reduceEqDiff, Nat.reduceLT, Nat.reduceLeDiff, Nat.reduceBEq, reduceIte, reduceCtorEq, Int.reduceToNat, Int.reduceLE, Int.reduceLT, Int.reduceBEq, Int.reduceBNe])
        (refine Cl.here ?_; simp only [go_sem, Nat.reduceAdd, Nat.reduceSub, Nat.reduceMul, Nat.reduceEqDiff, Nat.reduceLT, Nat.reduceLeDiff, Nat.reduceBEq, reduceIte, reduceCtorEq, Int.reduceToNat, Int.reduceLE, Int.reduceLT, Int.reduceBEq, Int.reduceBNe])
        simp only [go_sem, Nat.reduceAdd, Nat.reduceSub, Nat.reduceMul, Nat.reduceEqDiff, Nat.reduceLT, Nat.reduceLeDiff, Nat.reduceBEq, reduceIte, reduceCtorEq, Int.reduceToNat, Int.reduceLE, Int.reduceLT, Int.reduceBEq, Int.reduceBNe, b6]
        (refine Cl.here ?_; simp only [go_sem, Nat.reduceAdd, Nat.reduceSub, Nat.reduceMul, Nat.reduceEqDiff, Nat.reduceLT, Nat.reduceLeDiff, Nat.reduceBEq, reduceIte, reduceCtorEq, Int.reduceToNat, Int.reduceLE, Int.reduceLT, Int.reduceBEq, Int.reduceBNe])
        (refine Cl.tr [some 0, some 1] [] rfl rfl (by simp only [go_sem, Nat.reduceAdd, Nat.reduceSub, Nat.reduceMul, Nat.reduceEqDiff, Nat.reduceLT, Nat.reduceLeDiff, Nat.reduceBEq, reduceIte, reduceCtorEq, Int.reduceToNat, Int.reduceLE, Int.reduceLT, Int.reduceBEq, Int.reduceBNe] <;> rfl) ?_; simp only [go_sem, Nat.reduceAdd, Nat.reduceSub, Nat.reduceMul, Nat.reduceEqDiff, Nat.reduceLT, Nat.reduceLeDiff, Nat.reduceBEq, reduceIte, reduceCtorEq, Int.reduceToNat, Int.reduceLE, Int.reduceLT, Int.reduceBEq, Int.reduceBNe])
        repeat (refine Cl.here ?_; simp only [go_sem, Nat.reduceAdd, Nat.reduceSub, Nat.reduceMul, Nat.reduceEqDiff, Nat.reduceLT, Nat.reduceLeDiff, Nat.reduceBEq, reduceIte, reduceCtorEq, Int.reduceToNat, Int.reduceLE, Int.reduceLT, Int.reduceBEq, Int.reduceBNe])
        simp only [go_sem, Nat.reduceAdd, Nat.reduceSub, Nat.reduceMul, Nat.reduceEqDiff, Nat.reduceLT, Nat.reduceLeDiff, Nat.reduceBEq, reduceIte, reduceCtorEq, Int.reduceToNat, Int.reduceLE, Int.reduceLT, Int.reduceBEq, Int.reduceBNe, hwk]
        exact ⟨⟨k + 1, by omega, by rw [hft2, hcs2, hcg], by rw [hft2, hks]; rfl⟩, by omega⟩
    have b6 : (y.kind == 6) = false := beq_eq_false_iff_ne.2 h6
    rw [if_neg (fun h => h6 h.1)] at hks
    cases hcg : canc G x.key
    · (refine Cl.here ?_; simp only [go_sem, Nat.reduceAdd, Nat.reduceSub, Nat.reduceMul, Nat.reduceEqDiff, Nat.reduceLT, Nat.reduceLeDiff, Nat.reduceBEq, reduceIte, reduceCtorEq, Int.reduceToNat, Int.reduceLE, Int.reduceLT, Int.reduceBEq, Int.reduceBNe])
      simp only [go_sem, Nat.reduceAdd, Nat.reduceSub, Nat.reduceMul, Nat.reduceEqDiff, Nat.reduceLT, Nat.reduceLeDiff, Nat.reduceBEq, reduceIte, reduceCtorEq, Int.reduceToNat, Int.reduceLE, Int.reduceLT, Int.reduceBEq, Int.reduceBNe, b5]
      (refine Cl.here ?_; simp only [go_sem, Nat.reduceAdd, Nat.reduceSub, Nat.reduceMul, Nat.reduceEqDiff, Nat.reduceLT, Nat.reduceLeDiff, Nat.reduceBEq, reduceIte, reduceCtorEq, Int.reduceToNat, Int.reduceLE, Int.reduceLT, Int.reduceBEq, Int.reduceBNe])
      simp only [go_sem, Nat.reduceAdd, Nat.reduceSub, Nat.reduceMul, Nat.reduceEqDiff, Nat.reduceLT, Nat.reduceLeDiff, Nat.reduceBEq, reduceIte, reduceCtorEq, Int.reduceToNat, Int.reduceLE, Int.reduceLT, Int.reduceBEq, Int.reduceBNe, b6]
      (refine Cl.tr [some 0, some 1] [] rfl rfl (by simp only [go_sem, Nat.reduceAdd, Nat.reduceSub, Nat.reduceMul, Nat.reduceEqDiff, Nat.reduceLT, Nat.reduceLeDiff, Nat.reduceBEq, reduceIte, reduceCtorEq, Int.reduceToNat, Int.reduceLE, Int.reduceLT, Int.reduceBEq, Int.reduceBNe] <;> rfl) ?_; simp only [go_sem, Nat.reduceAdd, Nat.reduceSub, Nat.reduceMul, Nat.reduceEqDiff, Nat.reduceLT, Nat.reduceLeDiff, Nat.reduceBEq, reduceIte, reduceCtorEq, Int.reduceToNat, Int.reduceLE, Int.reduceLT, Int.reduceBEq, Int.reduceBNe])
      repeat (refine Cl.here ?_; simp only [go_sem, Nat.reduceAdd, Nat.reduceSub, Nat.reduceMul, Nat.reduceEqDiff, Nat.reduceLT, Nat.reduceLeDiff, Nat.reduceBEq, reduceIte, reduceCtorEq, Int.reduceToNat, Int.reduceLE, Int.reduceLT, Int.reduceBEq, Int.reduceBNe])
      simp only [go_sem, Nat.reduceAdd, Nat.reduceSub, Nat.reduceMul, Nat.reduceEqDiff, Nat.reduceLT, Nat.reduceLeDiff, Nat.reduceBEq, reduceIte, reduceCtorEq, Int.reduceToNat, Int.reduceLE, Int.reduceLT, Int.reduceBEq, Int.reduceBNe, hwk]
      exact ⟨⟨k + 1, by omega, by rw [hft2, hcs2, hcg], by rw [hft2, hks]⟩, by omega⟩
    · (refine Cl.here ?_; simp only [go_sem, Nat.reduceAdd, Nat.reduceSub, Nat.reduceMul, Nat.reduceEqDiff, Nat.reduceLT, Nat.reduceLeDiff, Nat.reduceBEq, reduceIte, reduceCtorEq, Int.reduceToNat, Int.reduceLE, Int.reduceLT, Int.reduceBEq, Int.reduceBNe])
      (refine Cl.here ?_; simp only [go_sem, Nat.reduceAdd, Nat.reduceSub, Nat.reduceMul, Nat.reduceEqDiff, Nat.reduceLT, Nat.reduceLeDiff, Nat.reduceBEq, reduceIte, reduceCtorEq, Int.reduceToNat, Int.reduceLE, Int.reduceLT, Int.reduceBEq, Int.reduceBNe])
      simp only [go_sem, Nat.reduceAdd, Nat.reduceSub, Nat.reduceMul, Nat.reduceEqDiff, Nat.reduceLT, Nat.reduceLeDiff, Nat.reduceBEq, reduceIte, reduceCtorEq, Int.reduceToNat, Int.reduceLE, Int.reduceLT, Int.reduceBEq, Int.reduceBNe, b6]
      (refine Cl.tr [some 0, some 1] [] rfl rfl (by simp only [go_sem, Nat.reduceAdd, Nat.reduceSub, Nat.reduceMul, Nat.reduceEqDiff, Nat.reduceLT, Nat.reduceLeDiff, Nat.reduceBEq, reduceIte, reduceCtorEq, Int.reduceToNat, Int.reduceLE, Int.reduceLT, Int.reduceBEq, Int.reduceBNe] <;> rfl) ?_; simp only [go_sem, Nat.reduceAdd, Nat.reduceSub, Nat.reduceMul, Nat.reduceEqDiff, Nat.reduceLT, Nat.reduceLeDiff, Nat.reduceBEq, reduceIte, reduceCtorEq, Int.reduceToNat, Int.reduceLE, Int.reduceLT, Int.reduceBEq, Int.reduceBNe])
      repeat (refine Cl.here ?_; simp only [go_sem, Nat.reduceAdd, Nat.reduceSub, Nat.reduceMul, Nat.reduceEqDiff, Nat.reduceLT, Nat.reduceLeDiff, Nat.reduceBEq, reduceIte, reduceCtorEq, Int.reduceToNat, Int.reduceLE, Int.reduceLT, Int.reduceBEq, Int.reduceBNe])
      simp only [go_sem, Nat.reduceAdd, Nat.reduceSub, Nat.reduceMul, Nat.reduceEqDiff, Nat.reduceLT, Nat.reduceLeDiff, Nat.reduceBEq, reduceIte, reduceCtorEq, Int.reduceToNat, Int.reduceLE, Int.reduceLT, Int.reduceBEq, Int.reduceBNe, hwk]
      exact ⟨⟨k + 1, by omega, by rw [hft2, hcs2, hcg], by rw [hft2, hks]⟩, by omega⟩
  have htk : C.take k = C := List.take_of_length_le (by omega)
  rw [htk, hFF]
  clear hwk hg2 htk hk
  by_cases hcc : canc F x.key = true
  · have hno : stOf F x = none := by
      unfold stOf
      rw [if_pos (.inr (.inr hcc))]
    have hsk := hskip (.inr hno)
    rw [hcc]
    (refine Cl.here ?_; simp only [go_sem, Nat.reduceAdd, Nat.reduceSub, Nat.reduceMul, Nat.reduceEqDiff, Nat.reduceLT, Nat.reduceLeDiff, Nat.reduceBEq, reduceIte, reduceCtorEq, Int.reduceToNat, Int.reduceLE, Int.reduceLT, Int.reduceBEq, Int.reduceBNe])
    (refine Cl.here ?_; simp only [go_sem, Nat.reduceAdd, Nat.reduceSub, Nat.reduceMul, Nat.reduceEqDiff, Nat.reduceLT, Nat.reduceLeDiff, Nat.reduceBEq, reduceIte, reduceCtorEq, Int.reduceToNat, Int.reduceLE, Int.reduceLT, Int.reduceBEq, Int.reduceBNe])
    (refine Cl.tr [some 0] [] rfl rfl (by simp only [go_sem, Nat.reduceAdd, Nat.reduceSub, Nat.reduceMul, Nat.reduceEqDiff, Nat.reduceLT, Nat.reduceLeDiff, Nat.reduceBEq, reduceIte, reduceCtorEq, Int.reduceToNat, Int.reduceLE, Int.reduceLT, Int.reduceBEq, Int.reduceBNe] <;> rfl) ?_; simp only [go_sem, Nat.reduceAdd, Nat.reduceSub, Nat.reduceMul, Nat.reduceEqDiff, Nat.reduceLT, Nat.reduceLeDiff, Nat.reduceBEq, reduceIte, reduceCtorEq, Int.reduceToNat, Int.reduceLE, Int.reduceLT, Int.reduceBEq, Int.reduceBNe])
    repeat (refine Cl.here ?_; simp only [go_sem, Nat.reduceAdd, Nat.reduceSub, Nat.reduceMul, Nat.reduceEqDiff, Nat.reduceLT, Nat.reduceLeDiff, Nat.reduceBEq, reduceIte, reduceCtorEq, Int.reduceToNat, Int.reduceLE, Int.reduceLT, Int.reduceBEq, Int.reduceBNe])
    simp only [go_sem, Nat.reduceAdd, Nat.reduceSub, Nat.reduceMul, Nat.reduceEqDiff, Nat.reduceLT, Nat.reduceLeDiff, Nat.reduceBEq, reduceIte, reduceCtorEq, Int.reduceToNat, Int.reduceLE, Int.reduceLT, Int.reduceBEq, Int.reduceBNe, hw1]
    exact ⟨⟨i + 1, S, by omega, by omega, by rw [hsk]; exact hSp, hSs, rfl, rfl⟩, by omega⟩
  have hcc' : canc F x.key = false := by simpa using hcc
  rw [hcc']
  have hso : stOf F x = some ⟨(corr F x.key).getD x.time, x.kind, x.kt, x.ks⟩ := by
    unfold stOf
    rw [if_neg (by simp [hcc']; omega)]
  have hnxt : (forE n (C.take (i + 1))).filterMap (stOf F) = (forE n (C.take i)).filterMap (stOf F) ++ [⟨(corr F x.key).getD x.time, x.kind, x.kt, x.ks⟩] := by
    rw [hft, if_pos hn, List.filterMap_append]
    simp [hso]
  (refine Cl.here ?_; simp only [go_sem, Nat.reduceAdd, Nat.reduceSub, Nat.reduceMul, Nat.reduceEqDiff, Nat.reduceLT, Nat.reduceLeDiff, Nat.reduceBEq, reduceIte, reduceCtorEq, Int.reduceToNat, Int.reduceLE, Int.reduceLT, Int.reduceBEq, Int.reduceBNe])
  (refine Cl.here ?_; simp only [go_sem, Nat.reduceAdd, Nat.reduceSub, Nat.reduceMul, Nat.reduceEqDiff, Nat.reduceLT, Nat.reduceLeDiff, Nat.reduceBEq, reduceIte, reduceCtorEq, Int.reduceToNat, Int.reduceLE, Int.reduceLT, Int.reduceBEq, Int.reduceBNe])
  (refine Cl.here ?_; simp only [go_sem, Nat.reduceAdd, Nat.reduceSub, Nat.reduceMul, Nat.reduceEqDiff, Nat.reduceLT, Nat.reduceLeDiff, Nat.reduceBEq, reduceIte, reduceCtorEq, Int.reduceToNat, Int.reduceLE, Int.reduceLT, Int.reduceBEq, Int.reduceBNe])
  generalize (corr F x.key).getD x.time = tm at *
  generalize hsg : (⟨tm, x.kind, x.kt, x.ks⟩ : Stamp) = s at *
  have hkeys : ∀ q ∈ S, kLt q.key s.key := by rw [← hsg]; exact hkeys
  have hrow : ([.int .i64 tm, .int .i64 x.kind, .int .i64 x.kt, .int .i64 x.ks] : List AVal) = Cel.c s := by rw [← hsg]; rfl
  rw [hrow]
  (refine Cl.tr [some 0, some 2] [] rfl rfl (by simp only [go_sem, Nat.reduceAdd, Nat.reduceSub, Nat.reduceMul, Nat.reduceEqDiff, Nat.reduceLT, Nat.reduceLeDiff, Nat.reduceBEq, reduceIte, reduceCtorEq, Int.reduceToNat, Int.reduceLE, Int.reduceLT, Int.reduceBEq, Int.reduceBNe] <;> rfl) ?_; simp only [go_sem, Nat.reduceAdd, Nat.reduceSub, Nat.reduceMul, Nat.reduceEqDiff, Nat.reduceLT, Nat.reduceLeDiff, Nat.reduceBEq, reduceIte, reduceCtorEq, Int.reduceToNat, Int.reduceLE, Int.reduceLT, Int.reduceBEq, Int.reduceBNe])
  repeat (refine Cl.here ?_; simp only [go_sem, Nat.reduceAdd, Nat.reduceSub, Nat.reduceMul, Nat.reduceEqDiff, Nat.reduceLT, Nat.reduceLeDiff, Nat.reduceBEq, reduceIte, reduceCtorEq, Int.reduceToNat, Int.reduceLE, Int.reduceLT, Int.reduceBEq, Int.reduceBNe])
  refine avcW_loop (fun env rows => ∃ k : Nat, k ≤ S.length ∧ (∀ q (h : q < S.length), k ≤ q → s.time < S[q].time) ∧ env = [(1, .int .i64 n), (7, .pure 7 (els C)), (8, .own 0 S.length 0 S.length), (9, .int .i64 i), (14, .ref 1 1 0 0), (15, .int .i64 k)] ∧ rows = [.live 77 4 (els S), .live 77 4 [Cel.c s]])
    (fun env _ => match slot env 15 with | .int _ j => j.toNat | _ => 0) ?_ ?_
  · exact Cl.here ⟨S.length, by omega, fun q h h2 => by omega, rfl, rfl⟩
  rintro env rows ⟨k, hk, hup, rfl, rfl⟩
  have hwk : IntKind.i64.wrap ((k : Int) + 1) = ((k + 1 : Nat) : Int) := by rw [wrap_i64 (by omega) (by omega)]; omega
  rcases Nat.eq_zero_or_pos k with hk0 | hk0
  · have hd : decide ((0 : Int) < k) = false := decide_eq_false (by omega)
    simp only [go_sem, Nat.reduceAdd, Nat.reduceSub, Nat.reduceMul, Nat.reduceEqDiff, Nat.reduceLT, Nat.reduceLeDiff, Nat.reduceBEq, reduceIte, reduceCtorEq, Int.reduceToNat, Int.reduceLE, Int.reduceLT, Int.reduceBEq, Int.reduceBNe, a57, a57r0, a57r1, a57r2, a57r3, a57r4, a57r5, a57r6, a57r7, a57r8, a57r9, a57r10, a57r11, a57r12, a57r13, a57r14, a57r15, a57r16, a57r17, a57r18, a57r19, a57r20, a57r21, a57r22, a57r23, a57r24, a57r25, a57r26, a57r27, a57r28, hd]
    repeat (refine Cl.here ?_; simp only [go_sem, Nat.reduceAdd, Nat.reduceSub, Nat.reduceMul, Nat.reduceEqDiff, Nat.reduceLT, Nat.reduceLeDiff, Nat.reduceBEq, reduceIte, reduceCtorEq, Int.reduceToNat, Int.reduceLE, Int.reduceLT, Int.reduceBEq, Int.reduceBNe])
    have hl1 : (S ++ [(⟨0, 0, 0, 0⟩ : Stamp)]).length = S.length + 1 := by simp
    have hk2 : k + (S.length + 1 - k) = S.length + 1 := by omega
    have hk3 : k + 1 + (S.length + 1 - (k + 1)) = S.length + 1 := by omega
    refine ⟨by omega, ?_⟩
    rw [stamp_snoc]
    repeat (refine Cl.here ?_; simp only [go_sem, Nat.reduceAdd, Nat.reduceSub, Nat.reduceMul, Nat.reduceEqDiff, Nat.reduceLT, Nat.reduceLeDiff, Nat.reduceBEq, reduceIte, reduceCtorEq, Int.reduceToNat, Int.reduceLE, Int.reduceLT, Int.reduceBEq, Int.reduceBNe])
    simp only [go_sem, Nat.reduceAdd, Nat.reduceSub, Nat.reduceMul, Nat.reduceEqDiff, Nat.reduceLT, Nat.reduceLeDiff, Nat.reduceBEq, reduceIte, reduceCtorEq, Int.reduceToNat, Int.reduceLE, Int.reduceLT, Int.reduceBEq, Int.reduceBNe, hwk, hl1, hk2]
    repeat (refine And.intro (by first | rfl | omega) ?_)
    have hpart : List.take (min (List.take (S.length + 1 - k) (List.drop k (S ++ [(⟨0, 0, 0, 0⟩ : Stamp)]))).length (S.length + 1 - (k + 1))) (List.take (S.length + 1 - k) (List.drop k (S ++ [(⟨0, 0, 0, 0⟩ : Stamp)]))) = S.drop k := overL_part hk (by simp only [List.length_take, List.length_drop, hl1]; omega) (by simp only [List.length_take, List.length_drop, hl1]; omega)
    rw [hpart]
    have hol := overL_length (z := (⟨0, 0, 0, 0⟩ : Stamp)) hk
    have hos := overL_set (z := (⟨0, 0, 0, 0⟩ : Stamp)) (x := s) hk
    generalize overL (S ++ [(⟨0, 0, 0, 0⟩ : Stamp)]) (k + 1) (S.drop k) = ws at hol hos ⊢
    have hkw : k < ws.length := by omega
    have hgw : (els ws).getD k [] = Cel.c ws[k] := els_getD hkw
    have hdr : ∀ x : Stamp, List.drop 4 (Cel.c x) = [] := fun _ => rfl
    have hwl : S.length + 1 = (S.take k ++ s :: S.drop k).length := by rw [← hos, List.length_set, hol]
    have hsrt : (S.take k ++ s :: S.drop k).Pairwise sLt := stamps_ins hSs hk hkeys hup (fun h => by omega)
    have hprm : (S.take k ++ s :: S.drop k).Perm ((forE n (C.take (i + 1))).filterMap (stOf F)) := by
      refine List.perm_middle.trans ?_
      rw [List.take_append_drop, hnxt]
      exact ((List.Perm.cons s hSp).trans (List.perm_append_singleton s _).symm)
    (refine Cl.tr [some 0, some 1] [] rfl rfl (by simp only [go_sem, Nat.reduceAdd, Nat.reduceSub, Nat.reduceMul, Nat.reduceEqDiff, Nat.reduceLT, Nat.reduceLeDiff, Nat.reduceBEq, reduceIte, reduceCtorEq, Int.reduceToNat, Int.reduceLE, Int.reduceLT, Int.reduceBEq, Int.reduceBNe] <;> rfl) ?_; simp only [go_sem, Nat.reduceAdd, Nat.reduceSub, Nat.reduceMul, Nat.reduceEqDiff, Nat.reduceLT, Nat.reduceLeDiff, Nat.reduceBEq, reduceIte, reduceCtorEq, Int.reduceToNat, Int.reduceLE, Int.reduceLT, Int.reduceBEq, Int.reduceBNe])
    repeat (refine Cl.here ?_; simp only [go_sem, Nat.reduceAdd, Nat.reduceSub, Nat.reduceMul, Nat.reduceEqDiff, Nat.reduceLT, Nat.reduceLeDiff, Nat.reduceBEq, reduceIte, reduceCtorEq, Int.reduceToNat, Int.reduceLE, Int.reduceLT, Int.reduceBEq, Int.reduceBNe])
    have z0 : (0 : Int) ≤ ((k : Nat) : Int) := by omega
    have z1 : ((k : Nat) : Int) < ((S.length + 1 : Nat) : Int) := by omega
    simp only [go_sem, Nat.reduceAdd, Nat.reduceSub, Nat.reduceMul, Nat.reduceEqDiff, Nat.reduceLT, Nat.reduceLeDiff, Nat.reduceBEq, reduceIte, reduceCtorEq, Int.reduceToNat, Int.reduceLE, Int.reduceLT, Int.reduceBEq, Int.reduceBNe, hgw, z0, z1, hol]
    rw [hdr, List.append_nil, els_set, hos, hwl]
    (refine Cl.tr [some 0] [] rfl rfl (by simp only [go_sem, Nat.reduceAdd, Nat.reduceSub, Nat.reduceMul, Nat.reduceEqDiff, Nat.reduceLT, Nat.reduceLeDiff, Nat.reduceBEq, reduceIte, reduceCtorEq, Int.reduceToNat, Int.reduceLE, Int.reduceLT, Int.reduceBEq, Int.reduceBNe] <;> rfl) ?_; simp only [go_sem, Nat.reduceAdd, Nat.reduceSub, Nat.reduceMul, Nat.reduceEqDiff, Nat.reduceLT, Nat.reduceLeDiff, Nat.reduceBEq, reduceIte, reduceCtorEq, Int.reduceToNat, Int.reduceLE, Int.reduceLT, Int.reduceBEq, Int.reduceBNe])
    repeat (refine Cl.here ?_; simp only [go_sem, Nat.reduceAdd, Nat.reduceSub, Nat.reduceMul, Nat.reduceEqDiff, Nat.reduceLT, Nat.reduceLeDiff, Nat.reduceBEq, reduceIte, reduceCtorEq, Int.reduceToNat, Int.reduceLE, Int.reduceLT, Int.reduceBEq, Int.reduceBNe])
    simp only [go_sem, Nat.reduceAdd, Nat.reduceSub, Nat.reduceMul, Nat.reduceEqDiff, Nat.reduceLT, Nat.reduceLeDiff, Nat.reduceBEq, reduceIte, reduceCtorEq, Int.reduceToNat, Int.reduceLE, Int.reduceLT, Int.reduceBEq, Int.reduceBNe, hw1]
    exact ⟨⟨i + 1, _, by omega, by omega, hprm, hsrt, rfl, rfl⟩, by omega⟩
  · obtain ⟨k, rfl⟩ : ∃ j, k = j + 1 := ⟨k - 1, by omega⟩
    have hd : decide ((0 : Int) < ((k + 1 : Nat) : Int)) = true := decide_eq_true (by omega)
    have hws : IntKind.i64.wrap (((k + 1 : Nat) : Int) - 1) = k := by rw [wrap_i64 (by omega) (by omega)]; omega
    have y0 : (0 : Int) ≤ k := by omega
    have y1 : (k : Int) < S.length := by omega
    have gy : (els S).getD k [] = Cel.c (S[k]'(by omega)) := els_getD (by omega)
    have hce : Cel.c s = [.int .i64 s.time, .int .i64 s.kind, .int .i64 s.kt, .int .i64 s.ks] := rfl
    by_cases hgt : s.time < (S[k]'(by omega)).time
    · have hdg : decide (s.time < (S[k]'(by omega)).time) = true := decide_eq_true hgt
      simp only [go_sem, Nat.reduceAdd, Nat.reduceSub, Nat.reduceMul, Nat.reduceEqDiff, Nat.reduceLT, Nat.reduceLeDiff, Nat.reduceBEq, reduceIte, reduceCtorEq, Int.reduceToNat, Int.reduceLE, Int.reduceLT, Int.reduceBEq, Int.reduceBNe, a57, a57r0, a57r1, a57r2, a57r3, a57r4, a57r5, a57r6, a57r7, a57r8, a57r9, a57r10, a57r11, a57r12, a57r13, a57r14, a57r15, a57r16, a57r17, a57r18, a57r19, a57r20, a57r21, a57r22, a57r23, a57r24, a57r25, a57r26, a57r27, a57r28, hd, hws, y0, y1, gy, cel_stamp, hdg]
      repeat (refine Cl.here ?_; simp only [go_sem, Nat.reduceAdd, Nat.reduceSub, Nat.reduceMul, Nat.reduceEqDiff, Nat.reduceLT, Nat.reduceLeDiff, Nat.reduceBEq, reduceIte, reduceCtorEq, Int.reduceToNat, Int.reduceLE, Int.reduceLT, Int.reduceBEq, Int.reduceBNe])
      simp only [go_sem, Nat.reduceAdd, Nat.reduceSub, Nat.reduceMul, Nat.reduceEqDiff, Nat.reduceLT, Nat.reduceLeDiff, Nat.reduceBEq, reduceIte, reduceCtorEq, Int.reduceToNat, Int.reduceLE, Int.reduceLT, Int.reduceBEq, Int.reduceBNe, hws]
      exact ⟨⟨k, by omega, fun q h hq => by
        by_cases hqk : q = k
        · subst hqk; exact hgt
        · exact hup q h (by omega), rfl⟩, by omega⟩
    · have hdg : decide (s.time < (S[k]'(by omega)).time) = false := decide_eq_false hgt
      simp only [go_sem, Nat.reduceAdd, Nat.reduceSub, Nat.reduceMul, Nat.reduceEqDiff, Nat.reduceLT, Nat.reduceLeDiff, Nat.reduceBEq, reduceIte, reduceCtorEq, Int.reduceToNat, Int.reduceLE, Int.reduceLT, Int.reduceBEq, Int.reduceBNe, a57, a57r0, a57r1, a57r2, a57r3, a57r4, a57r5, a57r6, a57r7, a57r8, a57r9, a57r10, a57r11, a57r12, a57r13, a57r14, a57r15, a57r16, a57r17, a57r18, a57r19, a57r20, a57r21, a57r22, a57r23, a57r24, a57r25, a57r26, a57r27, a57r28, hd, hws, y0, y1, gy, cel_stamp, hdg]
      rw [← hce]
      repeat (refine Cl.here ?_; simp only [go_sem, Nat.reduceAdd, Nat.reduceSub, Nat.reduceMul, Nat.reduceEqDiff, Nat.reduceLT, Nat.reduceLeDiff, Nat.reduceBEq, reduceIte, reduceCtorEq, Int.reduceToNat, Int.reduceLE, Int.reduceLT, Int.reduceBEq, Int.reduceBNe])
      have hl1 : (S ++ [(⟨0, 0, 0, 0⟩ : Stamp)]).length = S.length + 1 := by simp
      have hk2 : (k + 1) + (S.length + 1 - (k + 1)) = S.length + 1 := by omega
      have hk3 : (k + 1) + 1 + (S.length + 1 - ((k + 1) + 1)) = S.length + 1 := by omega
      refine ⟨by omega, ?_⟩
      rw [stamp_snoc]
      repeat (refine Cl.here ?_; simp only [go_sem, Nat.reduceAdd, Nat.reduceSub, Nat.reduceMul, Nat.reduceEqDiff, Nat.reduceLT, Nat.reduceLeDiff, Nat.reduceBEq, reduceIte, reduceCtorEq, Int.reduceToNat, Int.reduceLE, Int.reduceLT, Int.reduceBEq, Int.reduceBNe])
      simp only [go_sem, Nat.reduceAdd, Nat.reduceSub, Nat.reduceMul, Nat.reduceEqDiff, Nat.reduceLT, Nat.reduceLeDiff, Nat.reduceBEq, reduceIte, reduceCtorEq, Int.reduceToNat, Int.reduceLE, Int.reduceLT, Int.reduceBEq, Int.reduceBNe, hwk, hl1, hk2]
      repeat (refine And.intro (by first | rfl | omega) ?_)
      have hpart : List.take (min (List.take (S.length + 1 - (k + 1)) (List.drop (k + 1) (S ++ [(⟨0, 0, 0, 0⟩ : Stamp)]))).length (S.length + 1 - ((k + 1) + 1))) (List.take (S.length + 1 - (k + 1)) (List.drop (k + 1) (S ++ [(⟨0, 0, 0, 0⟩ : Stamp)]))) = S.drop (k + 1) := overL_part hk (by simp only [List.length_take, List.length_drop, hl1]; omega) (by simp only [List.length_take, List.length_drop, hl1]; omega)
      rw [hpart]
      have hol := overL_length (z := (⟨0, 0, 0, 0⟩ : Stamp)) hk
      have hos := overL_set (z := (⟨0, 0, 0, 0⟩ : Stamp)) (x := s) hk
      generalize overL (S ++ [(⟨0, 0, 0, 0⟩ : Stamp)]) ((k + 1) + 1) (S.drop (k + 1)) = ws at hol hos ⊢
      have hkw : (k + 1) < ws.length := by omega
      have hgw : (els ws).getD (k + 1) [] = Cel.c ws[(k + 1)] := els_getD hkw
      have hdr : ∀ x : Stamp, List.drop 4 (Cel.c x) = [] := fun _ => rfl
      have hwl : S.length + 1 = (S.take (k + 1) ++ s :: S.drop (k + 1)).length := by rw [← hos, List.length_set, hol]
      have hsrt : (S.take (k + 1) ++ s :: S.drop (k + 1)).Pairwise sLt := stamps_ins hSs hk hkeys hup (fun h => by simp only [Nat.add_sub_cancel]; omega)
      have hprm : (S.take (k + 1) ++ s :: S.drop (k + 1)).Perm ((forE n (C.take (i + 1))).filterMap (stOf F)) := by
        refine List.perm_middle.trans ?_
        rw [List.take_append_drop, hnxt]
        exact ((List.Perm.cons s hSp).trans (List.perm_append_singleton s _).symm)
      (refine Cl.tr [some 0, some 1] [] rfl rfl (by simp only [go_sem, Nat.reduceAdd, Nat.reduceSub, Nat.reduceMul, Nat.reduceEqDiff, Nat.reduceLT, Nat.reduceLeDiff, Nat.reduceBEq, reduceIte, reduceCtorEq, Int.reduceToNat, Int.reduceLE, Int.reduceLT, Int.reduceBEq, Int.reduceBNe] <;> rfl) ?_; simp only [go_sem, Nat.reduceAdd, Nat.reduceSub, Nat.reduceMul, Nat.reduceEqDiff, Nat.reduceLT, Nat.reduceLeDiff, Nat.reduceBEq, reduceIte, reduceCtorEq, Int.reduceToNat, Int.reduceLE, Int.reduceLT, Int.reduceBEq, Int.reduceBNe])
      repeat (refine Cl.here ?_; simp only [go_sem, Nat.reduceAdd, Nat.reduceSub, Nat.reduceMul, Nat.reduceEqDiff, Nat.reduceLT, Nat.reduceLeDiff, Nat.reduceBEq, reduceIte, reduceCtorEq, Int.reduceToNat, Int.reduceLE, Int.reduceLT, Int.reduceBEq, Int.reduceBNe])
      have z0 : (0 : Int) ≤ (((k + 1) : Nat) : Int) := by omega
      have z1 : (((k + 1) : Nat) : Int) < ((S.length + 1 : Nat) : Int) := by omega
      simp only [go_sem, Nat.reduceAdd, Nat.reduceSub, Nat.reduceMul, Nat.reduceEqDiff, Nat.reduceLT, Nat.reduceLeDiff, Nat.reduceBEq, reduceIte, reduceCtorEq, Int.reduceToNat, Int.reduceLE, Int.reduceLT, Int.reduceBEq, Int.reduceBNe, hgw, z0, z1, hol]
      rw [hdr, List.append_nil, els_set, hos, hwl]
      (refine Cl.tr [some 0] [] rfl rfl (by simp only [go_sem, Nat.reduceAdd, Nat.reduceSub, Nat.reduceMul, Nat.reduceEqDiff, Nat.reduceLT, Nat.reduceLeDiff, Nat.reduceBEq, reduceIte, reduceCtorEq, Int.reduceToNat, Int.reduceLE, Int.reduceLT, Int.reduceBEq, Int.reduceBNe] <;> rfl) ?_; simp only [go_sem, Nat.reduceAdd, Nat.reduceSub, Nat.reduceMul, Nat.reduceEqDiff, Nat.reduceLT, Nat.reduceLeDiff, Nat.reduceBEq, reduceIte, reduceCtorEq, Int.reduceToNat, Int.reduceLE, Int.reduceLT, Int.reduceBEq, Int.reduceBNe])
      repeat (refine Cl.here ?_; simp only [go_sem, Nat.reduceAdd, Nat.reduceSub, Nat.reduceMul, Nat.reduceEqDiff, Nat.reduceLT, Nat.reduceLeDiff, Nat.reduceBEq, reduceIte, reduceCtorEq, Int.reduceToNat, Int.reduceLE, Int.reduceLT, Int.reduceBEq, Int.reduceBNe])
      simp only [go_sem, Nat.reduceAdd, Nat.reduceSub, Nat.reduceMul, Nat.reduceEqDiff, Nat.reduceLT, Nat.reduceLeDiff, Nat.reduceBEq, reduceIte, reduceCtorEq, Int.reduceToNat, Int.reduceLE, Int.reduceLT, Int.reduceBEq, Int.reduceBNe, hw1]
      exact ⟨⟨i + 1, _, by omega, by omega, hprm, hsrt, rfl, rfl⟩, by omega⟩

end Go.Proofs.Ytodbafiepdcfbaa
