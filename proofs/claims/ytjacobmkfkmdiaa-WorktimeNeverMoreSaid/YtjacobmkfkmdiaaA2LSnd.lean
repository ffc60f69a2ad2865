/- PresenceSound: the walk. -/
import Derived.Test.YtjacobmkfkmdiaaA2SndPl
set_option linter.unusedSimpArgs false
set_option linter.unusedVariables false
set_option linter.unusedSectionVars false
namespace Go.Proofs.Ytjacobmkfkmdiaa
open Go Go.Abs
set_option linter.unusedSimpArgs false

theorem presOk_mem : ∀ {l : List Pre} {e : Int}, presOk e l = true → 0 ≤ e → ∀ p ∈ l, 0 ≤ p.fr ∧ p.fr < p.to ∧ p.to ≤ 120968640 ∧ p.br.length ≤ 1024 ∧ brOk p.fr p.to p.br = true
  | [], _, _, _, p, hp => by simp at hp
  | x :: r, e, h, he, p, hp => by
    simp only [presOk, preOk, ivIn, Bool.and_eq_true, decide_eq_true_eq] at h
    rcases List.mem_cons.1 hp with rfl | hp
    · exact ⟨by omega, by omega, by omega, h.1.1.2, h.1.2⟩
    · exact presOk_mem h.2 (by omega) p hp
theorem pvalid_presOk {l : List Pre} (h : pvalid l = 0) : presOk 0 l = true := by
  unfold pvalid at h
  split at h
  · omega
  · split at h
    · assumption
    · omega

theorem presenceSound (l : List Int) (hl : TapeOk l) (m : Int) : AFn Try.prog 5 [.pure 1 (numsE .i64 l), .int .i64 m] [] (fun v _ => v = .bool true) := by
  refine afnW Try.func5 a5_ok (by simp [a5]) ?_
  simp only [go_sem, Nat.reduceAdd, Nat.reduceSub, Nat.reduceMul, Nat.reduceEqDiff, Nat.reduceLT, Nat.reduceLeDiff, Nat.reduceBEq, reduceIte, reduceCtorEq, Int.reduceToNat, Int.reduceLE, Int.reduceLT, Int.reduceBEq, Int.reduceBNe, a5, a5r0, a5r1, a5r2, a5r3, a5r4, a5r5, a5r6, a5r7, a5r8, a5r9, a5r10, a5r11, a5r12, a5r13, a5r14, a5r15, a5r16, a5r17]
  (refine Cl.here ?_; simp only [go_sem, Nat.reduceAdd, Nat.reduceSub, Nat.reduceMul, Nat.reduceEqDiff, Nat.reduceLT, Nat.reduceLeDiff, Nat.reduceBEq, reduceIte, reduceCtorEq, Int.reduceToNat, Int.reduceLE, Int.reduceLT, Int.reduceBEq, Int.reduceBNe])
  (refine callC_of [] [] (by simp) rfl (bindL_clean _ (by first | rfl | simp only [go_sem, Nat.reduceAdd, Nat.reduceSub, Nat.reduceMul, Nat.reduceEqDiff, Nat.reduceLT, Nat.reduceLeDiff, Nat.reduceBEq, reduceIte, reduceCtorEq, Int.reduceToNat, Int.reduceLE, Int.reduceLT, Int.reduceBEq, Int.reduceBNe])) (new_ok l) ?_; rintro _ _ ⟨rfl, rfl⟩; refine ⟨.inl rfl, ?_⟩; simp only [go_sem, Nat.reduceAdd, Nat.reduceSub, Nat.reduceMul, Nat.reduceEqDiff, Nat.reduceLT, Nat.reduceLeDiff, Nat.reduceBEq, reduceIte, reduceCtorEq, Int.reduceToNat, Int.reduceLE, Int.reduceLT, Int.reduceBEq, Int.reduceBNe])
  (refine callC_of [0] [] (by decide) (by simp only [go_sem, Nat.reduceAdd, Nat.reduceSub, Nat.reduceMul, Nat.reduceEqDiff, Nat.reduceLT, Nat.reduceLeDiff, Nat.reduceBEq, reduceIte, reduceCtorEq, Int.reduceToNat, Int.reduceLE, Int.reduceLT, Int.reduceBEq, Int.reduceBNe] <;> rfl) (by simp only [go_sem, Nat.reduceAdd, Nat.reduceSub, Nat.reduceMul, Nat.reduceEqDiff, Nat.reduceLT, Nat.reduceLeDiff, Nat.reduceBEq, reduceIte, reduceCtorEq, Int.reduceToNat, Int.reduceLE, Int.reduceLT, Int.reduceBEq, Int.reduceBNe] <;> rfl) (stamps_ok l hl 14 (by omega) (by omega) 0 (by omega) (by omega)) ?_; rintro _ _ ⟨at_, L, rfl, rfl, _, _, hL1, hL2⟩; refine ⟨.inl rfl, ?_⟩; simp only [go_sem, Nat.reduceAdd, Nat.reduceSub, Nat.reduceMul, Nat.reduceEqDiff, Nat.reduceLT, Nat.reduceLeDiff, Nat.reduceBEq, reduceIte, reduceCtorEq, Int.reduceToNat, Int.reduceLE, Int.reduceLT, Int.reduceBEq, Int.reduceBNe])
  (refine Cl.frz [] [ 1] rfl rfl (by simp only [go_sem, Nat.reduceAdd, Nat.reduceSub, Nat.reduceMul, Nat.reduceEqDiff, Nat.reduceLT, Nat.reduceLeDiff, Nat.reduceBEq, reduceIte, reduceCtorEq, Int.reduceToNat, Int.reduceLE, Int.reduceLT, Int.reduceBEq, Int.reduceBNe] <;> rfl) ?_; simp only [go_sem, Nat.reduceAdd, Nat.reduceSub, Nat.reduceMul, Nat.reduceEqDiff, Nat.reduceLT, Nat.reduceLeDiff, Nat.reduceBEq, reduceIte, reduceCtorEq, Int.reduceToNat, Int.reduceLE, Int.reduceLT, Int.reduceBEq, Int.reduceBNe])
  (refine Cl.here ?_; simp only [go_sem, Nat.reduceAdd, Nat.reduceSub, Nat.reduceMul, Nat.reduceEqDiff, Nat.reduceLT, Nat.reduceLeDiff, Nat.reduceBEq, reduceIte, reduceCtorEq, Int.reduceToNat, Int.reduceLE, Int.reduceLT, Int.reduceBEq, Int.reduceBNe])
  refine callC_det (mod_ok m 1500 (by omega) (by omega)) rfl rfl ?_
  have hmb := mod_bounds (v := m) (n := 1500) (by omega)
  generalize mod m 1500 = n0 at hmb ⊢
  simp only [go_sem, Nat.reduceAdd, Nat.reduceSub, Nat.reduceMul, Nat.reduceEqDiff, Nat.reduceLT, Nat.reduceLeDiff, Nat.reduceBEq, reduceIte, reduceCtorEq, Int.reduceToNat, Int.reduceLE, Int.reduceLT, Int.reduceBEq, Int.reduceBNe]
  rw [wrap_i64 (by omega) (by omega)]
  generalize hn : 1 + n0 = n at *
  obtain ⟨hc, hv, hgood, hcnt⟩ := sound_pl (n := n) hL2 (by omega) (by omega) (by omega)
  (refine Cl.here ?_; simp only [go_sem, Nat.reduceAdd, Nat.reduceSub, Nat.reduceMul, Nat.reduceEqDiff, Nat.reduceLT, Nat.reduceLeDiff, Nat.reduceBEq, reduceIte, reduceCtorEq, Int.reduceToNat, Int.reduceLE, Int.reduceLT, Int.reduceBEq, Int.reduceBNe])
  refine callC_det (pair_ok L n (by omega)) rfl rfl ?_
  rw [hc]
  generalize pairP L n = ps at *
  generalize pairA L n = xs at *
  simp only [go_sem, Nat.reduceAdd, Nat.reduceSub, Nat.reduceMul, Nat.reduceEqDiff, Nat.reduceLT, Nat.reduceLeDiff, Nat.reduceBEq, reduceIte, reduceCtorEq, Int.reduceToNat, Int.reduceLE, Int.reduceLT, Int.reduceBEq, Int.reduceBNe]
  (refine Cl.here ?_; simp only [go_sem, Nat.reduceAdd, Nat.reduceSub, Nat.reduceMul, Nat.reduceEqDiff, Nat.reduceLT, Nat.reduceLeDiff, Nat.reduceBEq, reduceIte, reduceCtorEq, Int.reduceToNat, Int.reduceLE, Int.reduceLT, Int.reduceBEq, Int.reduceBNe])
  refine callC_det (valid_ok ps (by omega)) rfl rfl ?_
  rw [hv]
  simp only [go_sem, Nat.reduceAdd, Nat.reduceSub, Nat.reduceMul, Nat.reduceEqDiff, Nat.reduceLT, Nat.reduceLeDiff, Nat.reduceBEq, reduceIte, reduceCtorEq, Int.reduceToNat, Int.reduceLE, Int.reduceLT, Int.reduceBEq, Int.reduceBNe]
  repeat (refine Cl.here ?_; simp only [go_sem, Nat.reduceAdd, Nat.reduceSub, Nat.reduceMul, Nat.reduceEqDiff, Nat.reduceLT, Nat.reduceLeDiff, Nat.reduceBEq, reduceIte, reduceCtorEq, Int.reduceToNat, Int.reduceLE, Int.reduceLT, Int.reduceBEq, Int.reduceBNe])
  have hvm := presOk_mem (pvalid_presOk hv) (by omega)
  refine avcW_of _ ?_
  refine avc_loop (fun env rows => ∃ i : Nat, i ≤ ps.length ∧ env = [(5, .pure 4 (els L)), (6, .int .i64 n), (7, .pure 3 (els ps)), (8, .pure 2 (els xs)), (10, .int .i64 i)] ∧ rows = [])
    (fun env _ => match slot env 10 with | .int _ j => (ps.length - j).toNat | _ => 0) ?_ ?_
  · exact Cl.here ⟨0, by omega, rfl, rfl⟩
  · rintro env rows ⟨i, hi, rfl, rfl⟩
    simp only [go_sem, Nat.reduceAdd, Nat.reduceSub, Nat.reduceMul, Nat.reduceEqDiff, Nat.reduceLT, Nat.reduceLeDiff, Nat.reduceBEq, reduceIte, reduceCtorEq, Int.reduceToNat, Int.reduceLE, Int.reduceLT, Int.reduceBEq, Int.reduceBNe, a5, a5r0, a5r1, a5r2, a5r3, a5r4, a5r5, a5r6, a5r7, a5r8, a5r9, a5r10, a5r11, a5r12, a5r13, a5r14, a5r15, a5r16, a5r17]
    refine condC_intro ?_ ?_ <;> intro hg1 <;> simp only [decide_eq_true_eq, decide_eq_false_iff_not, beq_iff_eq, beq_eq_false_iff_ne, bne_iff_ne, bne_eq_false_iff_eq, Bool.not_eq_true', Bool.not_eq_false', Int.not_lt, Int.not_le, ne_eq, Bool.and_eq_true, Bool.or_eq_true, Bool.or_eq_false_iff, Bool.and_eq_false_iff] at hg1 <;> simp only [go_sem, Nat.reduceAdd, Nat.reduceSub, Nat.reduceMul, Nat.reduceEqDiff, Nat.reduceLT, Nat.reduceLeDiff, Nat.reduceBEq, reduceIte, reduceCtorEq, Int.reduceToNat, Int.reduceLE, Int.reduceLT, Int.reduceBEq, Int.reduceBNe, a5, a5r0, a5r1, a5r2, a5r3, a5r4, a5r5, a5r6, a5r7, a5r8, a5r9, a5r10, a5r11, a5r12, a5r13, a5r14, a5r15, a5r16, a5r17]
    · have hlt : i < ps.length := by omega
      have hi0 : (0 : Int) ≤ i := by omega
      have hi1 : (i : Int) < ps.length := by omega
      obtain ⟨g1, g2, g3, g4, g5⟩ := hvm _ (List.getElem_mem hlt)
      obtain ⟨k1, k2, k3, k4⟩ := hgood _ (List.getElem_mem hlt)
      have hget : (els ps).getD i [] = [.int .i64 ps[i].fr, .int .i64 ps[i].to, .pure 2 (els ps[i].br)] := by rw [els_getD hlt, cel_pre]
      generalize ps[i] = p at g1 g2 g3 g4 g5 k1 k2 k3 k4 hget
      have hw : IntKind.i64.wrap (p.to - p.fr) = p.to - p.fr := wrap_i64 (by omega) (by omega)
      simp only [go_sem, Nat.reduceAdd, Nat.reduceSub, Nat.reduceMul, Nat.reduceEqDiff, Nat.reduceLT, Nat.reduceLeDiff, Nat.reduceBEq, reduceIte, reduceCtorEq, Int.reduceToNat, Int.reduceLE, Int.reduceLT, Int.reduceBEq, Int.reduceBNe, a5, a5r0, a5r1, a5r2, a5r3, a5r4, a5r5, a5r6, a5r7, a5r8, a5r9, a5r10, a5r11, a5r12, a5r13, a5r14, a5r15, a5r16, a5r17, hi0, hi1, hget, hw]
      repeat' (first | (refine grdC_intro ?_ ?_ <;> intro hg <;> (have hp := hg; try simp only [decide_eq_true_eq, decide_eq_false_iff_not, beq_iff_eq, beq_eq_false_iff_ne, bne_iff_ne, bne_eq_false_iff_eq, Bool.not_eq_true', Bool.not_eq_false', Int.not_lt, Int.not_le, ne_eq, Bool.and_eq_true, Bool.or_eq_true, Bool.or_eq_false_iff, Bool.and_eq_false_iff] at hp) <;> (first | omega | (simp only [go_sem, Nat.reduceAdd, Nat.reduceSub, Nat.reduceMul, Nat.reduceEqDiff, Nat.reduceLT, Nat.reduceLeDiff, Nat.reduceBEq, reduceIte, reduceCtorEq, Int.reduceToNat, Int.reduceLE, Int.reduceLT, Int.reduceBEq, Int.reduceBNe, hg, a5, a5r0, a5r1, a5r2, a5r3, a5r4, a5r5, a5r6, a5r7, a5r8, a5r9, a5r10, a5r11, a5r12, a5r13, a5r14, a5r15, a5r16, a5r17, hi0, hi1, hget, hw]; clear hg))) | (refine grdD_intro ?_ ?_ <;> intro hg <;> (have hp := hg; try simp only [decide_eq_true_eq, decide_eq_false_iff_not, beq_iff_eq, beq_eq_false_iff_ne, bne_iff_ne, bne_eq_false_iff_eq, Bool.not_eq_true', Bool.not_eq_false', Int.not_lt, Int.not_le, ne_eq, Bool.and_eq_true, Bool.or_eq_true, Bool.or_eq_false_iff, Bool.and_eq_false_iff] at hp) <;> (first | omega | (simp only [go_sem, Nat.reduceAdd, Nat.reduceSub, Nat.reduceMul, Nat.reduceEqDiff, Nat.reduceLT, Nat.reduceLeDiff, Nat.reduceBEq, reduceIte, reduceCtorEq, Int.reduceToNat, Int.reduceLE, Int.reduceLT, Int.reduceBEq, Int.reduceBNe, hg, a5, a5r0, a5r1, a5r2, a5r3, a5r4, a5r5, a5r6, a5r7, a5r8, a5r9, a5r10, a5r11, a5r12, a5r13, a5r14, a5r15, a5r16, a5r17, hi0, hi1, hget, hw]; clear hg))) | (refine condC_intro ?_ ?_ <;> intro hg <;> (have hp := hg; try simp only [decide_eq_true_eq, decide_eq_false_iff_not, beq_iff_eq, beq_eq_false_iff_ne, bne_iff_ne, bne_eq_false_iff_eq, Bool.not_eq_true', Bool.not_eq_false', Int.not_lt, Int.not_le, ne_eq, Bool.and_eq_true, Bool.or_eq_true, Bool.or_eq_false_iff, Bool.and_eq_false_iff] at hp) <;> (first | omega | (simp only [go_sem, Nat.reduceAdd, Nat.reduceSub, Nat.reduceMul, Nat.reduceEqDiff, Nat.reduceLT, Nat.reduceLeDiff, Nat.reduceBEq, reduceIte, reduceCtorEq, Int.reduceToNat, Int.reduceLE, Int.reduceLT, Int.reduceBEq, Int.reduceBNe, hg, a5, a5r0, a5r1, a5r2, a5r3, a5r4, a5r5, a5r6, a5r7, a5r8, a5r9, a5r10, a5r11, a5r12, a5r13, a5r14, a5r15, a5r16, a5r17, hi0, hi1, hget, hw]; clear hg))) | (refine condW_intro ?_ ?_ <;> intro hg <;> (have hp := hg; try simp only [decide_eq_true_eq, decide_eq_false_iff_not, beq_iff_eq, beq_eq_false_iff_ne, bne_iff_ne, bne_eq_false_iff_eq, Bool.not_eq_true', Bool.not_eq_false', Int.not_lt, Int.not_le, ne_eq, Bool.and_eq_true, Bool.or_eq_true, Bool.or_eq_false_iff, Bool.and_eq_false_iff] at hp) <;> (first | omega | (simp only [go_sem, Nat.reduceAdd, Nat.reduceSub, Nat.reduceMul, Nat.reduceEqDiff, Nat.reduceLT, Nat.reduceLeDiff, Nat.reduceBEq, reduceIte, reduceCtorEq, Int.reduceToNat, Int.reduceLE, Int.reduceLT, Int.reduceBEq, Int.reduceBNe, hg, a5, a5r0, a5r1, a5r2, a5r3, a5r4, a5r5, a5r6, a5r7, a5r8, a5r9, a5r10, a5r11, a5r12, a5r13, a5r14, a5r15, a5r16, a5r17, hi0, hi1, hget, hw]; clear hg))))
      refine callD_det (has_ok L (by omega) p.fr 1) rfl rfl ?_
      rw [k2]
      simp only [go_sem, Nat.reduceAdd, Nat.reduceSub, Nat.reduceMul, Nat.reduceEqDiff, Nat.reduceLT, Nat.reduceLeDiff, Nat.reduceBEq, reduceIte, reduceCtorEq, Int.reduceToNat, Int.reduceLE, Int.reduceLT, Int.reduceBEq, Int.reduceBNe, hi0, hi1, hget]
      refine callD_det (has_ok L (by omega) p.to 2) rfl rfl ?_
      rw [k3]
      simp only [go_sem, Nat.reduceAdd, Nat.reduceSub, Nat.reduceMul, Nat.reduceEqDiff, Nat.reduceLT, Nat.reduceLeDiff, Nat.reduceBEq, reduceIte, reduceCtorEq, Int.reduceToNat, Int.reduceLE, Int.reduceLT, Int.reduceBEq, Int.reduceBNe, a5, a5r0, a5r1, a5r2, a5r3, a5r4, a5r5, a5r6, a5r7, a5r8, a5r9, a5r10, a5r11, a5r12, a5r13, a5r14, a5r15, a5r16, a5r17]
      have hw1 : IntKind.i64.wrap ((i : Int) + 1) = ((i + 1 : Nat) : Int) := by rw [wrap_i64 (by omega) (by omega)]; omega
      refine avc_loop (fun env rows => ∃ k : Nat, k ≤ p.br.length ∧ env = [(5, .pure 4 (els L)), (6, .int .i64 n), (7, .pure 3 (els ps)), (8, .pure 2 (els xs)), (10, .int .i64 i), (11, .int .i64 k)] ∧ rows = [])
        (fun env _ => match slot env 11 with | .int _ j => (p.br.length - j).toNat | _ => 0) ?_ ?_
      · exact Cl.here ⟨0, by omega, rfl, rfl⟩
      · rintro env rows ⟨k, hk, rfl, rfl⟩
        simp only [go_sem, Nat.reduceAdd, Nat.reduceSub, Nat.reduceMul, Nat.reduceEqDiff, Nat.reduceLT, Nat.reduceLeDiff, Nat.reduceBEq, reduceIte, reduceCtorEq, Int.reduceToNat, Int.reduceLE, Int.reduceLT, Int.reduceBEq, Int.reduceBNe, a5, a5r0, a5r1, a5r2, a5r3, a5r4, a5r5, a5r6, a5r7, a5r8, a5r9, a5r10, a5r11, a5r12, a5r13, a5r14, a5r15, a5r16, a5r17, hi0, hi1, hget]
        refine condC_intro ?_ ?_ <;> intro hg2 <;> simp only [decide_eq_true_eq, decide_eq_false_iff_not, beq_iff_eq, beq_eq_false_iff_ne, bne_iff_ne, bne_eq_false_iff_eq, Bool.not_eq_true', Bool.not_eq_false', Int.not_lt, Int.not_le, ne_eq, Bool.and_eq_true, Bool.or_eq_true, Bool.or_eq_false_iff, Bool.and_eq_false_iff] at hg2 <;> simp only [go_sem, Nat.reduceAdd, Nat.reduceSub, Nat.reduceMul, Nat.reduceEqDiff, Nat.reduceLT, Nat.reduceLeDiff, Nat.reduceBEq, reduceIte, reduceCtorEq, Int.reduceToNat, Int.reduceLE, Int.reduceLT, Int.reduceBEq, Int.reduceBNe, a5, a5r0, a5r1, a5r2, a5r3, a5r4, a5r5, a5r6, a5r7, a5r8, a5r9, a5r10, a5r11, a5r12, a5r13, a5r14, a5r15, a5r16, a5r17, hi0, hi1, hget]
        · have hlt2 : k < p.br.length := by omega
          have hk0 : (0 : Int) ≤ k := by omega
          have hk1 : (k : Int) < p.br.length := by omega
          obtain ⟨m1, m2⟩ := k4 _ (List.getElem_mem hlt2)
          have hget2 : (els p.br).getD k [] = [.int .i64 p.br[k].fr, .int .i64 p.br[k].to] := by rw [els_getD hlt2, cel_iv]
          generalize p.br[k] = b at m1 m2 hget2
          have hw2 : IntKind.i64.wrap ((k : Int) + 1) = ((k + 1 : Nat) : Int) := by rw [wrap_i64 (by omega) (by omega)]; omega
          simp only [go_sem, Nat.reduceAdd, Nat.reduceSub, Nat.reduceMul, Nat.reduceEqDiff, Nat.reduceLT, Nat.reduceLeDiff, Nat.reduceBEq, reduceIte, reduceCtorEq, Int.reduceToNat, Int.reduceLE, Int.reduceLT, Int.reduceBEq, Int.reduceBNe, a5, a5r0, a5r1, a5r2, a5r3, a5r4, a5r5, a5r6, a5r7, a5r8, a5r9, a5r10, a5r11, a5r12, a5r13, a5r14, a5r15, a5r16, a5r17, hk0, hk1, hget2]
          refine callD_det (has_ok L (by omega) b.fr 3) rfl rfl ?_
          rw [m1]
          simp only [go_sem, Nat.reduceAdd, Nat.reduceSub, Nat.reduceMul, Nat.reduceEqDiff, Nat.reduceLT, Nat.reduceLeDiff, Nat.reduceBEq, reduceIte, reduceCtorEq, Int.reduceToNat, Int.reduceLE, Int.reduceLT, Int.reduceBEq, Int.reduceBNe]
          refine callD_det (has_ok L (by omega) b.to 4) rfl rfl ?_
          simp only [go_sem, Nat.reduceAdd, Nat.reduceSub, Nat.reduceMul, Nat.reduceEqDiff, Nat.reduceLT, Nat.reduceLeDiff, Nat.reduceBEq, reduceIte, reduceCtorEq, Int.reduceToNat, Int.reduceLE, Int.reduceLT, Int.reduceBEq, Int.reduceBNe]
          repeat' (first | (refine grdC_intro ?_ ?_ <;> intro hg <;> (have hp := hg; try simp only [decide_eq_true_eq, decide_eq_false_iff_not, beq_iff_eq, beq_eq_false_iff_ne, bne_iff_ne, bne_eq_false_iff_eq, Bool.not_eq_true', Bool.not_eq_false', Int.not_lt, Int.not_le, ne_eq, Bool.and_eq_true, Bool.or_eq_true, Bool.or_eq_false_iff, Bool.and_eq_false_iff] at hp) <;> (first | omega | (simp only [go_sem, Nat.reduceAdd, Nat.reduceSub, Nat.reduceMul, Nat.reduceEqDiff, Nat.reduceLT, Nat.reduceLeDiff, Nat.reduceBEq, reduceIte, reduceCtorEq, Int.reduceToNat, Int.reduceLE, Int.reduceLT, Int.reduceBEq, Int.reduceBNe, hg, a5, a5r0, a5r1, a5r2, a5r3, a5r4, a5r5, a5r6, a5r7, a5r8, a5r9, a5r10, a5r11, a5r12, a5r13, a5r14, a5r15, a5r16, a5r17, hi0, hi1, hget, hw2]; clear hg))) | (refine grdD_intro ?_ ?_ <;> intro hg <;> (have hp := hg; try simp only [decide_eq_true_eq, decide_eq_false_iff_not, beq_iff_eq, beq_eq_false_iff_ne, bne_iff_ne, bne_eq_false_iff_eq, Bool.not_eq_true', Bool.not_eq_false', Int.not_lt, Int.not_le, ne_eq, Bool.and_eq_true, Bool.or_eq_true, Bool.or_eq_false_iff, Bool.and_eq_false_iff] at hp) <;> (first | omega | (simp only [go_sem, Nat.reduceAdd, Nat.reduceSub, Nat.reduceMul, Nat.reduceEqDiff, Nat.reduceLT, Nat.reduceLeDiff, Nat.reduceBEq, reduceIte, reduceCtorEq, Int.reduceToNat, Int.reduceLE, Int.reduceLT, Int.reduceBEq, Int.reduceBNe, hg, a5, a5r0, a5r1, a5r2, a5r3, a5r4, a5r5, a5r6, a5r7, a5r8, a5r9, a5r10, a5r11, a5r12, a5r13, a5r14, a5r15, a5r16, a5r17, hi0, hi1, hget, hw2]; clear hg))) | (refine condC_intro ?_ ?_ <;> intro hg <;> (have hp := hg; try simp only [decide_eq_true_eq, decide_eq_false_iff_not, beq_iff_eq, beq_eq_false_iff_ne, bne_iff_ne, bne_eq_false_iff_eq, Bool.not_eq_true', Bool.not_eq_false', Int.not_lt, Int.not_le, ne_eq, Bool.and_eq_true, Bool.or_eq_true, Bool.or_eq_false_iff, Bool.and_eq_false_iff] at hp) <;> (first | omega | (simp only [go_sem, Nat.reduceAdd, Nat.reduceSub, Nat.reduceMul, Nat.reduceEqDiff, Nat.reduceLT, Nat.reduceLeDiff, Nat.reduceBEq, reduceIte, reduceCtorEq, Int.reduceToNat, Int.reduceLE, Int.reduceLT, Int.reduceBEq, Int.reduceBNe, hg, a5, a5r0, a5r1, a5r2, a5r3, a5r4, a5r5, a5r6, a5r7, a5r8, a5r9, a5r10, a5r11, a5r12, a5r13, a5r14, a5r15, a5r16, a5r17, hi0, hi1, hget, hw2]; clear hg))) | (refine condW_intro ?_ ?_ <;> intro hg <;> (have hp := hg; try simp only [decide_eq_true_eq, decide_eq_false_iff_not, beq_iff_eq, beq_eq_false_iff_ne, bne_iff_ne, bne_eq_false_iff_eq, Bool.not_eq_true', Bool.not_eq_false', Int.not_lt, Int.not_le, ne_eq, Bool.and_eq_true, Bool.or_eq_true, Bool.or_eq_false_iff, Bool.and_eq_false_iff] at hp) <;> (first | omega | (simp only [go_sem, Nat.reduceAdd, Nat.reduceSub, Nat.reduceMul, Nat.reduceEqDiff, Nat.reduceLT, Nat.reduceLeDiff, Nat.reduceBEq, reduceIte, reduceCtorEq, Int.reduceToNat, Int.reduceLE, Int.reduceLT, Int.reduceBEq, Int.reduceBNe, hg, a5, a5r0, a5r1, a5r2, a5r3, a5r4, a5r5, a5r6, a5r7, a5r8, a5r9, a5r10, a5r11, a5r12, a5r13, a5r14, a5r15, a5r16, a5r17, hi0, hi1, hget, hw2]; clear hg))))
          · exfalso
            rcases m2 with m2 | m2 <;> simp_all
          all_goals (
            (refine Cl.tr [] [] rfl rfl (by simp only [go_sem, Nat.reduceAdd, Nat.reduceSub, Nat.reduceMul, Nat.reduceEqDiff, Nat.reduceLT, Nat.reduceLeDiff, Nat.reduceBEq, reduceIte, reduceCtorEq, Int.reduceToNat, Int.reduceLE, Int.reduceLT, Int.reduceBEq, Int.reduceBNe] <;> rfl) ?_; simp only [go_sem, Nat.reduceAdd, Nat.reduceSub, Nat.reduceMul, Nat.reduceEqDiff, Nat.reduceLT, Nat.reduceLeDiff, Nat.reduceBEq, reduceIte, reduceCtorEq, Int.reduceToNat, Int.reduceLE, Int.reduceLT, Int.reduceBEq, Int.reduceBNe])
            refine Cl.here ⟨⟨k + 1, by omega, rfl, rfl⟩, ?_⟩
            simp only [go_sem, Nat.reduceAdd, Nat.reduceSub, Nat.reduceMul, Nat.reduceEqDiff, Nat.reduceLT, Nat.reduceLeDiff, Nat.reduceBEq, reduceIte, reduceCtorEq, Int.reduceToNat, Int.reduceLE, Int.reduceLT, Int.reduceBEq, Int.reduceBNe]
            omega)
        · rw [hw1]
          refine Cl.here ⟨⟨i + 1, by omega, rfl, rfl⟩, ?_⟩
          simp only [go_sem, Nat.reduceAdd, Nat.reduceSub, Nat.reduceMul, Nat.reduceEqDiff, Nat.reduceLT, Nat.reduceLeDiff, Nat.reduceBEq, reduceIte, reduceCtorEq, Int.reduceToNat, Int.reduceLE, Int.reduceLT, Int.reduceBEq, Int.reduceBNe]
          omega
    · (refine Cl.here ?_; simp only [go_sem, Nat.reduceAdd, Nat.reduceSub, Nat.reduceMul, Nat.reduceEqDiff, Nat.reduceLT, Nat.reduceLeDiff, Nat.reduceBEq, reduceIte, reduceCtorEq, Int.reduceToNat, Int.reduceLE, Int.reduceLT, Int.reduceBEq, Int.reduceBNe])
      have hwa : IntKind.i64.wrap ((ps.length : Int) + xs.length) = ps.length + xs.length := wrap_i64 (by omega) (by omega)
      have hwb : IntKind.i64.wrap (2 * (L.length : Int)) = 2 * L.length := wrap_i64 (by omega) (by omega)
      have hd : decide ((ps.length : Int) + xs.length ≤ 2 * L.length) = true := decide_eq_true (by omega)
      simp only [go_sem, Nat.reduceAdd, Nat.reduceSub, Nat.reduceMul, Nat.reduceEqDiff, Nat.reduceLT, Nat.reduceLeDiff, Nat.reduceBEq, reduceIte, reduceCtorEq, Int.reduceToNat, Int.reduceLE, Int.reduceLT, Int.reduceBEq, Int.reduceBNe, hwa, hwb, hd]
      refine callC_det sane_ok rfl rfl ?_
      simp only [go_sem, Nat.reduceAdd, Nat.reduceSub, Nat.reduceMul, Nat.reduceEqDiff, Nat.reduceLT, Nat.reduceLeDiff, Nat.reduceBEq, reduceIte, reduceCtorEq, Int.reduceToNat, Int.reduceLE, Int.reduceLT, Int.reduceBEq, Int.reduceBNe]
      (refine Cl.here ?_; simp only [go_sem, Nat.reduceAdd, Nat.reduceSub, Nat.reduceMul, Nat.reduceEqDiff, Nat.reduceLT, Nat.reduceLeDiff, Nat.reduceBEq, reduceIte, reduceCtorEq, Int.reduceToNat, Int.reduceLE, Int.reduceLT, Int.reduceBEq, Int.reduceBNe])
      exact Cl.fin rfl rfl

end Go.Proofs.Ytjacobmkfkmdiaa
