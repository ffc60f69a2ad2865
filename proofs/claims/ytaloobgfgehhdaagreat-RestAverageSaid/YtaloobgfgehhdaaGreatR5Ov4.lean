/- Overtime: the division of works. -/
import Derived.Test.YtaloobgfgehhdaaGreatR5OvPl
set_option linter.unusedSimpArgs false
set_option linter.unusedVariables false
set_option linter.unusedSectionVars false
namespace Go.Proofs.YtaloobgfgehhdaaGreat
open Go Go.Abs
set_option linter.unusedSimpArgs false
set_option linter.unusedVariables false

def divQ (R : Rl) (ws : List Wk) (v : AVal) (rs : List Row) : Prop :=
  (vR R ≠ 0 ∧ v = .tup [.nils, .int .i64 (vR R)] ∧ rs = []) ∨
  (vR R = 0 ∧ spE ws ≠ 0 ∧ v = .tup [.nils, .int .i64 (spE ws)] ∧ rs = []) ∨
  (vR R = 0 ∧ spE ws = 0 ∧ ∃ S : List Spn, S.Perm (flatS ws) ∧ asc S ∧ v = .tup [.own 0 (run R (mins S)).ps.length 0 (run R (mins S)).ps.length, .int .i64 0] ∧ rs = [.live 81 4 (els (run R (mins S)).ps)])
theorem vR_ok {R : Rl} (h : vR R = 0) : RlOk R := by
  unfold vR at h
  split at h
  · cases h
  · split at h
    · rename_i h1 h2
      exact ⟨by omega, by omega, h2.2.1, h2.2.2⟩
    · cases h
theorem spE_zero {ws : List Wk} (h : spE ws = 0) : ws.length ≤ 1024 ∧ (∀ w ∈ ws, w.iv.length ≤ 1024) ∧ (∀ w ∈ ws, wkP w) ∧ (flatS ws).Pairwise disj ∧ sumS (flatS ws) ≤ 100000 := by
  unfold spE at h
  split at h
  · cases h
  split at h
  · cases h
  split at h
  · cases h
  split at h
  · cases h
  split at h
  · cases h
  rename_i h1 h2 h3 h4 h5
  refine ⟨by omega, fun w hw => ?_, by simpa using h3, by simpa using h4, by omega⟩
  have : ¬ 1024 < w.iv.length := fun h => h2 ⟨w, hw, h⟩
  omega
theorem flat_iv {ws : List Wk} (h : ∀ w ∈ ws, wkP w) : ∀ s ∈ flatS ws, ivP s.fr s.to ∧ 0 ≤ s.day ∧ s.day ≤ 84005 := by
  intro s hs
  obtain ⟨w, hw, v, hv, rfl⟩ := mem_flatS.1 hs
  exact ⟨(h w hw).2 v hv, (h w hw).1⟩

set_option maxHeartbeats 1000000 in
theorem divide_ok (R : Rl) (ws : List Wk) (hl0 : ws.length ≤ 9223372036854775806) : AFn Tryz.prog 17 [R.v, .pure 2 (els ws)] [] (divQ R ws) := by
  refine afn Tryz.func17 a17_ok (by simp [a17]) ?_
  have hV := valid_ok R
  unfold Rl.v at *
  simp only [go_sem, Nat.reduceAdd, Nat.reduceSub, Nat.reduceMul, Nat.reduceEqDiff, Nat.reduceLT, Nat.reduceLeDiff, Nat.reduceBEq, reduceIte, reduceCtorEq, Int.reduceToNat, Int.reduceLE, Int.reduceLT, Int.reduceBEq, Int.reduceBNe, a17, a17r0, a17r1, a17r2, a17r3, a17r4, a17r5, a17r6, a17r7, a17r8, a17r9, a17r10, a17r11, a17r12, a17r13, a17r14, a17r15, a17r16, a17r17]
  refine callC_det hV rfl rfl ?_
  simp only [go_sem, Nat.reduceAdd, Nat.reduceSub, Nat.reduceMul, Nat.reduceEqDiff, Nat.reduceLT, Nat.reduceLeDiff, Nat.reduceBEq, reduceIte, reduceCtorEq, Int.reduceToNat, Int.reduceLE, Int.reduceLT, Int.reduceBEq, Int.reduceBNe]
  by_cases hv : vR R = 0
  rotate_left
  · have hv' : (vR R != 0) = true := by simp [hv]
    simp only [go_sem, Nat.reduceAdd, Nat.reduceSub, Nat.reduceMul, Nat.reduceEqDiff, Nat.reduceLT, Nat.reduceLeDiff, Nat.reduceBEq, reduceIte, reduceCtorEq, Int.reduceToNat, Int.reduceLE, Int.reduceLT, Int.reduceBEq, Int.reduceBNe, hv']
    exact Cl.fin rfl (.inl ⟨hv, rfl, rfl⟩)
  have hv' : (vR R != 0) = false := by simp [hv]
  have hR := vR_ok hv
  simp only [go_sem, Nat.reduceAdd, Nat.reduceSub, Nat.reduceMul, Nat.reduceEqDiff, Nat.reduceLT, Nat.reduceLeDiff, Nat.reduceBEq, reduceIte, reduceCtorEq, Int.reduceToNat, Int.reduceLE, Int.reduceLT, Int.reduceBEq, Int.reduceBNe, hv']
  refine callC_of [] [] (by simp) rfl (bindL_clean _ (by first | rfl | simp only [go_sem, Nat.reduceAdd, Nat.reduceSub, Nat.reduceMul, Nat.reduceEqDiff, Nat.reduceLT, Nat.reduceLeDiff, Nat.reduceBEq, reduceIte, reduceCtorEq, Int.reduceToNat, Int.reduceLE, Int.reduceLT, Int.reduceBEq, Int.reduceBNe])) (spans_ok ws hl0) ?_
  rintro _ _ (⟨he, rfl, rfl⟩ | ⟨he, S, hperm, hasc, rfl, rfl⟩)
  · refine ⟨.inl rfl, ?_⟩
    have he' : (spE ws != 0) = true := by simp [he]
    simp only [go_sem, Nat.reduceAdd, Nat.reduceSub, Nat.reduceMul, Nat.reduceEqDiff, Nat.reduceLT, Nat.reduceLeDiff, Nat.reduceBEq, reduceIte, reduceCtorEq, Int.reduceToNat, Int.reduceLE, Int.reduceLT, Int.reduceBEq, Int.reduceBNe, he']
    exact Cl.fin rfl (.inr (.inl ⟨hv, he, rfl, rfl⟩))
  refine ⟨.inl rfl, ?_⟩
  obtain ⟨_, _, hwk, _, hsum⟩ := spE_zero he
  have hiv : ∀ s ∈ S, ivP s.fr s.to ∧ 0 ≤ s.day ∧ s.day ≤ 84005 := fun s hs => flat_iv hwk s (hperm.mem_iff.1 hs)
  have hms : ((mins S).length : Int) ≤ 100000 := by rw [mins_length fun s hs => (hiv s hs).1, sumS_perm hperm]; exact hsum
  have hSl : S.length ≤ 100000 := by
    have h1 : ∀ T : List Spn, (∀ s ∈ T, ivP s.fr s.to) → (T.length : Int) ≤ sumS T := by
      intro T
      induction T with
      | nil => intro _; simp [sumS]
      | cons s T ih =>
        intro h
        have a := ih fun x hx => h x (List.mem_cons_of_mem _ hx)
        have b := h s List.mem_cons_self
        unfold ivP at b
        simp only [sumS, List.length_cons]
        omega
    have := h1 S fun s hs => (hiv s hs).1
    rw [sumS_perm hperm] at this
    omega
  simp only [go_sem, Nat.reduceAdd, Nat.reduceSub, Nat.reduceMul, Nat.reduceEqDiff, Nat.reduceLT, Nat.reduceLeDiff, Nat.reduceBEq, reduceIte, reduceCtorEq, Int.reduceToNat, Int.reduceLE, Int.reduceLT, Int.reduceBEq, Int.reduceBNe, bne_self_eq_false]
  refine avc_loop (fun env rows => ∃ i : Nat, i ≤ S.length ∧ env = [(9, .ref 0 1 0 0), (32, .own 4 S.length 0 S.length), (33, .int .i64 S.length), (34, .int .i64 i)] ∧ rows = ovRows R (run R (mins (S.take i))).D (run R (mins (S.take i))).W (run R (mins (S.take i))).ps ++ [.live 76 3 (els S)])
    (fun env _ => match slot env 34 with | .int _ j => (S.length - j).toNat | _ => 0) ?_ ?_
  · (refine Cl.step (.ghostC 4  0  5  81  4 rfl (by simp) (by decide) rfl) ?_; simp only [go_sem, Nat.reduceAdd, Nat.reduceSub, Nat.reduceMul, Nat.reduceEqDiff, Nat.reduceLT, Nat.reduceLeDiff, Nat.reduceBEq, reduceIte, reduceCtorEq, Int.reduceToNat, Int.reduceLE, Int.reduceLT, Int.reduceBEq, Int.reduceBNe, splice])
    (refine Cl.tr [some 4, some 2, some 3, some 5, some 1] [] rfl rfl (by simp only [go_sem, Nat.reduceAdd, Nat.reduceSub, Nat.reduceMul, Nat.reduceEqDiff, Nat.reduceLT, Nat.reduceLeDiff, Nat.reduceBEq, reduceIte, reduceCtorEq, Int.reduceToNat, Int.reduceLE, Int.reduceLT, Int.reduceBEq, Int.reduceBNe] <;> rfl) ?_; simp only [go_sem, Nat.reduceAdd, Nat.reduceSub, Nat.reduceMul, Nat.reduceEqDiff, Nat.reduceLT, Nat.reduceLeDiff, Nat.reduceBEq, reduceIte, reduceCtorEq, Int.reduceToNat, Int.reduceLE, Int.reduceLT, Int.reduceBEq, Int.reduceBNe])
    exact Cl.here ⟨0, by omega, rfl, rfl⟩
  · rintro env rows ⟨i, hi, rfl, rfl⟩
    have hw : IntKind.i64.wrap ((i : Int) + 1) = ((i + 1 : Nat) : Int) := by rw [wrap_i64 (by omega) (by omega)]; omega
    unfold ovRows
    simp only [go_sem, Nat.reduceAdd, Nat.reduceSub, Nat.reduceMul, Nat.reduceEqDiff, Nat.reduceLT, Nat.reduceLeDiff, Nat.reduceBEq, reduceIte, reduceCtorEq, Int.reduceToNat, Int.reduceLE, Int.reduceLT, Int.reduceBEq, Int.reduceBNe, a17, a17r0, a17r1, a17r2, a17r3, a17r4, a17r5, a17r6, a17r7, a17r8, a17r9, a17r10, a17r11, a17r12, a17r13, a17r14, a17r15, a17r16, a17r17]
    refine condC_intro ?_ ?_ <;> intro hg2 <;> simp only [decide_eq_true_eq, decide_eq_false_iff_not, beq_iff_eq, beq_eq_false_iff_ne, bne_iff_ne, bne_eq_false_iff_eq, Bool.not_eq_true', Bool.not_eq_false', Int.not_lt, Int.not_le, ne_eq, Bool.and_eq_true, Bool.or_eq_true, Bool.or_eq_false_iff, Bool.and_eq_false_iff] at hg2 <;> simp only [go_sem, Nat.reduceAdd, Nat.reduceSub, Nat.reduceMul, Nat.reduceEqDiff, Nat.reduceLT, Nat.reduceLeDiff, Nat.reduceBEq, reduceIte, reduceCtorEq, Int.reduceToNat, Int.reduceLE, Int.reduceLT, Int.reduceBEq, Int.reduceBNe, a17, a17r0, a17r1, a17r2, a17r3, a17r4, a17r5, a17r6, a17r7, a17r8, a17r9, a17r10, a17r11, a17r12, a17r13, a17r14, a17r15, a17r16, a17r17]
    · have hlt : i < S.length := by omega
      refine ⟨by omega, by omega, ?_⟩
      try simp only [Int.toNat_natCast]
      rw [els_getD hlt]
      have hT := mins_take hlt
      have hvi := hiv S[i] (List.getElem_mem _)
      have hml : ((mins (S.take (i + 1))).length : Int) ≤ 100000 := by
        have h1 : (mins S).length = (mins (S.take (i + 1))).length + (mins (S.drop (i + 1))).length := by
          unfold mins
          rw [← List.length_append, ← List.flatMap_append, List.take_append_drop]
        omega
      generalize S[i] = s at hT hvi ⊢
      generalize mins (S.take i) = M at *
      obtain ⟨hvi, hd0, hd1⟩ := hvi
      unfold ivP at hvi
      rw [hT, List.length_append, minsP, minsF_length] at hml
      simp only [go_sem, Nat.reduceAdd, Nat.reduceSub, Nat.reduceMul, Nat.reduceEqDiff, Nat.reduceLT, Nat.reduceLeDiff, Nat.reduceBEq, reduceIte, reduceCtorEq, Int.reduceToNat, Int.reduceLE, Int.reduceLT, Int.reduceBEq, Int.reduceBNe, cel_spn]
      refine avc_loop (fun env rows => ∃ n : Nat, s.fr + n ≤ s.to ∧ env = [(9, .ref 0 1 0 0), (11, .ref 5 1 0 0), (12, .int .i64 (s.fr + n)), (32, .own 4 S.length 0 S.length), (33, .int .i64 S.length), (34, .int .i64 i)] ∧
          rows = ovRows R (run R (M ++ minsF s.day s.fr n)).D (run R (M ++ minsF s.day s.fr n)).W (run R (M ++ minsF s.day s.fr n)).ps ++ [.live 76 3 (els S), .live 76 3 [[.int .i64 s.day, .int .i64 s.fr, .int .i64 s.to]]])
        (fun env _ => match slot env 12 with | .int _ j => (s.to - j).toNat | _ => 0) ?_ ?_
      · exact Cl.here ⟨0, by omega, by simp, by simp [minsF, ovRows]⟩
      rintro env rows ⟨n, hn, rfl, rfl⟩
      unfold ovRows
      simp only [go_sem, Nat.reduceAdd, Nat.reduceSub, Nat.reduceMul, Nat.reduceEqDiff, Nat.reduceLT, Nat.reduceLeDiff, Nat.reduceBEq, reduceIte, reduceCtorEq, Int.reduceToNat, Int.reduceLE, Int.reduceLT, Int.reduceBEq, Int.reduceBNe, a17, a17r0, a17r1, a17r2, a17r3, a17r4, a17r5, a17r6, a17r7, a17r8, a17r9, a17r10, a17r11, a17r12, a17r13, a17r14, a17r15, a17r16, a17r17]
      refine condC_intro ?_ ?_ <;> intro hg3 <;> simp only [decide_eq_true_eq, decide_eq_false_iff_not, beq_iff_eq, beq_eq_false_iff_ne, bne_iff_ne, bne_eq_false_iff_eq, Bool.not_eq_true', Bool.not_eq_false', Int.not_lt, Int.not_le, ne_eq, Bool.and_eq_true, Bool.or_eq_true, Bool.or_eq_false_iff, Bool.and_eq_false_iff] at hg3 <;> simp only [go_sem, Nat.reduceAdd, Nat.reduceSub, Nat.reduceMul, Nat.reduceEqDiff, Nat.reduceLT, Nat.reduceLeDiff, Nat.reduceBEq, reduceIte, reduceCtorEq, Int.reduceToNat, Int.reduceLE, Int.reduceLT, Int.reduceBEq, Int.reduceBNe, a17, a17r0, a17r1, a17r2, a17r3, a17r4, a17r5, a17r6, a17r7, a17r8, a17r9, a17r10, a17r11, a17r12, a17r13, a17r14, a17r15, a17r16, a17r17]
      · have hbd := run_bd R (M ++ minsF s.day s.fr n)
        rw [List.length_append, minsF_length] at hbd
        obtain ⟨b1, b2, b3⟩ := hbd
        have bD := b1 s.day
        have bW := b2 (mon s.day)
        have hrun := fun k => run_app R (M ++ minsF s.day s.fr n) (minsF s.day (s.fr + n) k)
        generalize run R (M ++ minsF s.day s.fr n) = st at *
        obtain ⟨D, W, ps⟩ := st
        simp only at bD bW b3 hrun ⊢
        rw [wrap_i64 (x := s.to - (s.fr + n)) (by omega) (by omega)]
        (refine callC_of [0, 1, 2, 3] [] (by decide) (by simp only [go_sem, Nat.reduceAdd, Nat.reduceSub, Nat.reduceMul, Nat.reduceEqDiff, Nat.reduceLT, Nat.reduceLeDiff, Nat.reduceBEq, reduceIte, reduceCtorEq, Int.reduceToNat, Int.reduceLE, Int.reduceLT, Int.reduceBEq, Int.reduceBNe] <;> rfl) (by simp only [go_sem, Nat.reduceAdd, Nat.reduceSub, Nat.reduceMul, Nat.reduceEqDiff, Nat.reduceLT, Nat.reduceLeDiff, Nat.reduceBEq, reduceIte, reduceCtorEq, Int.reduceToNat, Int.reduceLE, Int.reduceLT, Int.reduceBEq, Int.reduceBNe] <;> rfl) (next_ok' R hR D W ps s.day (s.to - (s.fr + n)) hd0 hd1 (by omega) (by omega) bD.1 (by omega) bW.1 (by omega)) ?_; rintro _ _ ⟨rfl, rfl⟩; refine ⟨.inl rfl, ?_⟩; simp only [go_sem, Nat.reduceAdd, Nat.reduceSub, Nat.reduceMul, Nat.reduceEqDiff, Nat.reduceLT, Nat.reduceLeDiff, Nat.reduceBEq, reduceIte, reduceCtorEq, Int.reduceToNat, Int.reduceLE, Int.reduceLT, Int.reduceBEq, Int.reduceBNe])
        have hnb := nxt_bd hR (D := D) (W := W) (day := s.day) (most := s.to - (s.fr + n)) bD.1 bW.1 (by omega)
        obtain ⟨m, hm⟩ : ∃ m : Nat, (nxt R D W s.day (s.to - (s.fr + n))).2.1 = m := ⟨(nxt R D W s.day (s.to - (s.fr + n))).2.1.toNat, by omega⟩
        have hst := nxt_state R D W s.day (s.to - (s.fr + n))
        have hck := chunk R D W ps s.day (s.to - (s.fr + n)) (s.fr + n) m (by omega) (by omega)
        rw [← hrun m, List.append_assoc, ← minsF_add] at hck
        rw [hm] at hst hnb ⊢
        rw [hst.1, hst.2]
        generalize (nxt R D W s.day (s.to - (s.fr + n))).1 = b at hck ⊢
        unfold ovRows
        simp only [go_sem, Nat.reduceAdd, Nat.reduceSub, Nat.reduceMul, Nat.reduceEqDiff, Nat.reduceLT, Nat.reduceLeDiff, Nat.reduceBEq, reduceIte, reduceCtorEq, Int.reduceToNat, Int.reduceLE, Int.reduceLT, Int.reduceBEq, Int.reduceBNe]
        rw [wrap_i64 (x := s.fr + (n : Int) + m) (by omega) (by omega)]
        have hadd := add_ok R (putI s.day (lk D s.day + m) D) (if (bandOf R D W s.day).2 = true then putI (mon s.day) (lk W (mon s.day) + m) W else W) ps ⟨s.day, s.fr + n, s.fr + n + m, b⟩ (by omega)
        rw [cel_pc] at hadd
        unfold ovRows at hadd
        (refine callC_of [0, 1, 2, 3] [] (by decide) (by simp only [go_sem, Nat.reduceAdd, Nat.reduceSub, Nat.reduceMul, Nat.reduceEqDiff, Nat.reduceLT, Nat.reduceLeDiff, Nat.reduceBEq, reduceIte, reduceCtorEq, Int.reduceToNat, Int.reduceLE, Int.reduceLT, Int.reduceBEq, Int.reduceBNe] <;> rfl) (by simp only [go_sem, Nat.reduceAdd, Nat.reduceSub, Nat.reduceMul, Nat.reduceEqDiff, Nat.reduceLT, Nat.reduceLeDiff, Nat.reduceBEq, reduceIte, reduceCtorEq, Int.reduceToNat, Int.reduceLE, Int.reduceLT, Int.reduceBEq, Int.reduceBNe] <;> rfl) (hadd) ?_; rintro _ _ ⟨rfl, rfl⟩; refine ⟨.inl rfl, ?_⟩; simp only [go_sem, Nat.reduceAdd, Nat.reduceSub, Nat.reduceMul, Nat.reduceEqDiff, Nat.reduceLT, Nat.reduceLeDiff, Nat.reduceBEq, reduceIte, reduceCtorEq, Int.reduceToNat, Int.reduceLE, Int.reduceLT, Int.reduceBEq, Int.reduceBNe])
        rw [wrap_i64 (x := s.fr + (n : Int) + m) (by omega) (by omega)]
        refine Cl.here ⟨⟨n + m, by omega, ?_, ?_⟩, ?_⟩
        · rw [show s.fr + ((n + m : Nat) : Int) = s.fr + (n : Int) + (m : Int) from by omega]
        · rw [hck]; first | done | rfl
        · simp only [go_sem, Nat.reduceAdd, Nat.reduceSub, Nat.reduceMul, Nat.reduceEqDiff, Nat.reduceLT, Nat.reduceLeDiff, Nat.reduceBEq, reduceIte, reduceCtorEq, Int.reduceToNat, Int.reduceLE, Int.reduceLT, Int.reduceBEq, Int.reduceBNe]
          omega
      · have hnn : n = (s.to - s.fr).toNat := by omega
        have hE : M ++ minsF s.day s.fr n = mins (S.take (i + 1)) := by rw [hT, minsP, hnn]
        rw [hE]
        simp only [go_sem, Nat.reduceAdd, Nat.reduceSub, Nat.reduceMul, Nat.reduceEqDiff, Nat.reduceLT, Nat.reduceLeDiff, Nat.reduceBEq, reduceIte, reduceCtorEq, Int.reduceToNat, Int.reduceLE, Int.reduceLT, Int.reduceBEq, Int.reduceBNe, hw]
        (refine Cl.tr [some 0, some 1, some 2, some 3, some 4] [] rfl rfl (by simp only [go_sem, Nat.reduceAdd, Nat.reduceSub, Nat.reduceMul, Nat.reduceEqDiff, Nat.reduceLT, Nat.reduceLeDiff, Nat.reduceBEq, reduceIte, reduceCtorEq, Int.reduceToNat, Int.reduceLE, Int.reduceLT, Int.reduceBEq, Int.reduceBNe] <;> rfl) ?_; simp only [go_sem, Nat.reduceAdd, Nat.reduceSub, Nat.reduceMul, Nat.reduceEqDiff, Nat.reduceLT, Nat.reduceLeDiff, Nat.reduceBEq, reduceIte, reduceCtorEq, Int.reduceToNat, Int.reduceLE, Int.reduceLT, Int.reduceBEq, Int.reduceBNe])
        refine Cl.here ⟨⟨i + 1, by omega, rfl, rfl⟩, ?_⟩
        simp only [go_sem, Nat.reduceAdd, Nat.reduceSub, Nat.reduceMul, Nat.reduceEqDiff, Nat.reduceLT, Nat.reduceLeDiff, Nat.reduceBEq, reduceIte, reduceCtorEq, Int.reduceToNat, Int.reduceLE, Int.reduceLT, Int.reduceBEq, Int.reduceBNe]
        omega
    · obtain rfl : i = S.length := by omega
      rw [List.take_length]
      (refine Cl.tr [some 3] [] rfl rfl (by simp only [go_sem, Nat.reduceAdd, Nat.reduceSub, Nat.reduceMul, Nat.reduceEqDiff, Nat.reduceLT, Nat.reduceLeDiff, Nat.reduceBEq, reduceIte, reduceCtorEq, Int.reduceToNat, Int.reduceLE, Int.reduceLT, Int.reduceBEq, Int.reduceBNe] <;> rfl) ?_; simp only [go_sem, Nat.reduceAdd, Nat.reduceSub, Nat.reduceMul, Nat.reduceEqDiff, Nat.reduceLT, Nat.reduceLeDiff, Nat.reduceBEq, reduceIte, reduceCtorEq, Int.reduceToNat, Int.reduceLE, Int.reduceLT, Int.reduceBEq, Int.reduceBNe])
      exact Cl.here (.inr (.inr ⟨hv, he, S, hperm, hasc, rfl, rfl⟩))

end Go.Proofs.YtaloobgfgehhdaaGreat
