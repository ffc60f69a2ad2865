/- WorktimeSound: the walk. -/
import Derived.Test.YtjacobmkfkmdiaaA2WPl
import Derived.Test.YtjacobmkfkmdiaaA2Duty
set_option linter.unusedSimpArgs false
set_option linter.unusedVariables false
set_option linter.unusedSectionVars false
namespace Go.Proofs.Ytjacobmkfkmdiaa
open Go Go.Abs
set_option linter.unusedSimpArgs false

theorem stayP_len {r : Rul} (hr : r.modeOk) {pl : Iv} {last : Int} {p : Pre} (h0 : 0 ≤ p.fr) (h1 : p.fr < p.to) : (stayP r pl last p).to - (stayP r pl last p).fr ≤ p.to - p.fr + 240 := by
  obtain ⟨g1, g2, g3⟩ := gridP_bd hr (t := p.fr) false (by omega)
  obtain ⟨g4, g5, g6⟩ := gridP_bd hr (t := p.to) true (by omega)
  have hs : r.snap ≤ 120 := by unfold Rul.modeOk at hr; omega
  simp only [stayP]
  split <;> split <;> omega
theorem adjP_len {r : Rul} (hr : r.modeOk) {pl : Iv} : ∀ {ps : List Pre} {last : Int}, (∀ p ∈ ps, 0 ≤ p.fr ∧ p.fr < p.to ∧ p.to - p.fr ≤ 545) → ivT (adjP r pl last ps) ≤ 785 * ps.length
  | [], _, _ => by simp [adjP, ivT]
  | p :: ps, last, h => by
    have hp := h p (by simp)
    have hl := stayP_len hr (pl := pl) (last := last) hp.1 hp.2.1
    have ih := adjP_len hr (pl := pl) (ps := ps) (last := max last (stayP r pl last p).to) (fun q hq => h q (by simp [hq]))
    rw [adjP, List.length_cons]
    split
    · rw [ivT]; omega
    · omega
theorem adjE_ok {r : Rul} {pl : Iv} {ps : List Pre} (hr : rulE r = 0) (hp : plOk pl) (hps : presOk 0 ps = true) (hl : ps.length ≤ 3) (hb : ∀ p ∈ ps, p.to - p.fr ≤ 545) : adjE r pl ps = 0 := by
  have hpm := presOk_mem hps (by omega)
  have hlen := adjP_len (rulE_zero hr).1 (pl := pl) (ps := ps) (last := 0) (fun p h => by have := hpm p h; have := hb p h; omega)
  have hv : pvalid ps = 0 := by rw [pvalid, if_neg (by omega), if_pos hps]
  unfold adjE
  rw [if_neg (by omega), if_neg, if_neg (by omega), if_neg (by omega)]
  rintro ⟨h1, h2⟩
  rcases hp with h | h
  · exact h1 h
  · rw [h] at h2; cases h2

theorem enfP_in : ∀ {bs : List Br} {k a m : Int} {w : List Iv}, brsOk a m bs = true → ivsIn w → ivsIn (enfP bs k w) ∧ ivT (enfP bs k w) ≤ ivT w
  | [], k, a, m, w, _, h => ⟨h, by simp [enfP]⟩
  | b :: bs, k, a, m, w, hb, h => by
    simp only [brsOk, Bool.and_eq_true] at hb
    rw [enfP]
    split
    · exact enfP_in hb.2 h
    · obtain ⟨c, d⟩ := cutP_in (l := w) (r := []) (a := b.after) (k := min (b.minutes - k) (ivT w - b.after)) (by omega) h (by simp [ivsIn])
      obtain ⟨e, f⟩ := enfP_in (k := k + min (b.minutes - k) (ivT w - b.after)) hb.2 c
      simp only [ivT] at d
      exact ⟨e, by omega⟩
theorem workP_in {r : Rul} {pl : Iv} {ps : List Pre} (h : adjE r pl ps = 0) : ivsIn (workP r pl ps) ∧ ivT (workP r pl ps) ≤ 100000 := by
  obtain ⟨h1, h2, h3, h4⟩ := adjE_zero h
  obtain ⟨hmo, hbo, hbl⟩ := rulE_zero h1
  have hpo := pvalid_presOk h3
  obtain ⟨hwi, hwt⟩ := woP_in (r := []) (brkP_ok hpo) (by omega) (brOk_in (adjP_ok (r := r) (pl := pl) (ps := ps) (last := 0)) (by omega)) (by simp [ivsIn])
  unfold workP
  simp only
  split
  · exact ⟨by simp [ivsIn], by simp [ivT]⟩
  · obtain ⟨c, d⟩ := enfP_in (k := takenP (woP (adjP r pl 0 ps) (brkP ps) [])) hbo hwi
    simp only [ivT] at hwt
    exact ⟨c, by omega⟩

theorem worktimeSound (l : List Int) (hl : TapeOk l) : AFn Try.prog 8 [.pure 1 (numsE .i64 l)] [] (fun v _ => v = .bool true) := by
  refine afnW Try.func8 a8_ok (by simp [a8]) ?_
  simp only [go_sem, Nat.reduceAdd, Nat.reduceSub, Nat.reduceMul, Nat.reduceEqDiff, Nat.reduceLT, Nat.reduceLeDiff, Nat.reduceBEq, reduceIte, reduceCtorEq, Int.reduceToNat, Int.reduceLE, Int.reduceLT, Int.reduceBEq, Int.reduceBNe, a8, a8r0, a8r1, a8r2, a8r3, a8r4, a8r5, a8r6, a8r7, a8r8, a8r9, a8r10, a8r11, a8r12, a8r13, a8r14, a8r15, a8r16, a8r17, a8r18, a8r19, a8r20, a8r21, a8r22]
  (refine Cl.here ?_; simp only [go_sem, Nat.reduceAdd, Nat.reduceSub, Nat.reduceMul, Nat.reduceEqDiff, Nat.reduceLT, Nat.reduceLeDiff, Nat.reduceBEq, reduceIte, reduceCtorEq, Int.reduceToNat, Int.reduceLE, Int.reduceLT, Int.reduceBEq, Int.reduceBNe])
  (refine callC_of [] [] (by simp) rfl (bindL_clean _ (by first | rfl | simp only [go_sem, Nat.reduceAdd, Nat.reduceSub, Nat.reduceMul, Nat.reduceEqDiff, Nat.reduceLT, Nat.reduceLeDiff, Nat.reduceBEq, reduceIte, reduceCtorEq, Int.reduceToNat, Int.reduceLE, Int.reduceLT, Int.reduceBEq, Int.reduceBNe])) (new_ok l) ?_; rintro _ _ ⟨rfl, rfl⟩; refine ⟨.inl rfl, ?_⟩; simp only [go_sem, Nat.reduceAdd, Nat.reduceSub, Nat.reduceMul, Nat.reduceEqDiff, Nat.reduceLT, Nat.reduceLeDiff, Nat.reduceBEq, reduceIte, reduceCtorEq, Int.reduceToNat, Int.reduceLE, Int.reduceLT, Int.reduceBEq, Int.reduceBNe])
  (refine Cl.here ?_; simp only [go_sem, Nat.reduceAdd, Nat.reduceSub, Nat.reduceMul, Nat.reduceEqDiff, Nat.reduceLT, Nat.reduceLeDiff, Nat.reduceBEq, reduceIte, reduceCtorEq, Int.reduceToNat, Int.reduceLE, Int.reduceLT, Int.reduceBEq, Int.reduceBNe])
  (refine callC_of [0] [] (by decide) (by simp only [go_sem, Nat.reduceAdd, Nat.reduceSub, Nat.reduceMul, Nat.reduceEqDiff, Nat.reduceLT, Nat.reduceLeDiff, Nat.reduceBEq, reduceIte, reduceCtorEq, Int.reduceToNat, Int.reduceLE, Int.reduceLT, Int.reduceBEq, Int.reduceBNe] <;> rfl) (by simp only [go_sem, Nat.reduceAdd, Nat.reduceSub, Nat.reduceMul, Nat.reduceEqDiff, Nat.reduceLT, Nat.reduceLeDiff, Nat.reduceBEq, reduceIte, reduceCtorEq, Int.reduceToNat, Int.reduceLE, Int.reduceLT, Int.reduceBEq, Int.reduceBNe] <;> rfl) (rules_ok l hl 0 (by omega) (by omega)) ?_; rintro _ _ ⟨at_, r, rfl, rfl, _, _, hr⟩; refine ⟨.inl rfl, ?_⟩; simp only [go_sem, Nat.reduceAdd, Nat.reduceSub, Nat.reduceMul, Nat.reduceEqDiff, Nat.reduceLT, Nat.reduceLeDiff, Nat.reduceBEq, reduceIte, reduceCtorEq, Int.reduceToNat, Int.reduceLE, Int.reduceLT, Int.reduceBEq, Int.reduceBNe])
  simp only [go_sem, Nat.reduceAdd, Nat.reduceSub, Nat.reduceMul, Nat.reduceEqDiff, Nat.reduceLT, Nat.reduceLeDiff, Nat.reduceBEq, reduceIte, reduceCtorEq, Int.reduceToNat, Int.reduceLE, Int.reduceLT, Int.reduceBEq, Int.reduceBNe, cel_rul]
  (refine Cl.here ?_; simp only [go_sem, Nat.reduceAdd, Nat.reduceSub, Nat.reduceMul, Nat.reduceEqDiff, Nat.reduceLT, Nat.reduceLeDiff, Nat.reduceBEq, reduceIte, reduceCtorEq, Int.reduceToNat, Int.reduceLE, Int.reduceLT, Int.reduceBEq, Int.reduceBNe])
  (refine callC_of [0] [] (by decide) (by simp only [go_sem, Nat.reduceAdd, Nat.reduceSub, Nat.reduceMul, Nat.reduceEqDiff, Nat.reduceLT, Nat.reduceLeDiff, Nat.reduceBEq, reduceIte, reduceCtorEq, Int.reduceToNat, Int.reduceLE, Int.reduceLT, Int.reduceBEq, Int.reduceBNe] <;> rfl) (by simp only [go_sem, Nat.reduceAdd, Nat.reduceSub, Nat.reduceMul, Nat.reduceEqDiff, Nat.reduceLT, Nat.reduceLeDiff, Nat.reduceBEq, reduceIte, reduceCtorEq, Int.reduceToNat, Int.reduceLE, Int.reduceLT, Int.reduceBEq, Int.reduceBNe] <;> rfl) (duty_ok l hl at_ (by omega) (by omega)) ?_; rintro _ _ ⟨at_, ps, pl, rfl, rfl, _, _, hn, hp, hb, hpl⟩; refine ⟨.inl rfl, ?_⟩; simp only [go_sem, Nat.reduceAdd, Nat.reduceSub, Nat.reduceMul, Nat.reduceEqDiff, Nat.reduceLT, Nat.reduceLeDiff, Nat.reduceBEq, reduceIte, reduceCtorEq, Int.reduceToNat, Int.reduceLE, Int.reduceLT, Int.reduceBEq, Int.reduceBNe])
  simp only [go_sem, Nat.reduceAdd, Nat.reduceSub, Nat.reduceMul, Nat.reduceEqDiff, Nat.reduceLT, Nat.reduceLeDiff, Nat.reduceBEq, reduceIte, reduceCtorEq, Int.reduceToNat, Int.reduceLE, Int.reduceLT, Int.reduceBEq, Int.reduceBNe, cel_iv]
  have hE := adjE_ok hr hpl hp hn (fun p h => (hb p h).1)
  obtain ⟨hm, hbo, _⟩ := rulE_zero hr
  obtain ⟨⟨E, hJ⟩, hav⟩ := workP_sound (r := r) (pl := pl) hbo hp
  have hA := adjustFull_ok r pl (-1) 20454 ps hE
  obtain ⟨hwi, hwt⟩ := workP_in hE
  have hpm := presOk_mem hp (by omega)
  rw [cel_rul, cel_iv] at hA
  (refine Cl.here ?_; simp only [go_sem, Nat.reduceAdd, Nat.reduceSub, Nat.reduceMul, Nat.reduceEqDiff, Nat.reduceLT, Nat.reduceLeDiff, Nat.reduceBEq, reduceIte, reduceCtorEq, Int.reduceToNat, Int.reduceLE, Int.reduceLT, Int.reduceBEq, Int.reduceBNe])
  refine callC_det hA rfl rfl ?_
  generalize workP r pl ps = W at *
  simp only [go_sem, Nat.reduceAdd, Nat.reduceSub, Nat.reduceMul, Nat.reduceEqDiff, Nat.reduceLT, Nat.reduceLeDiff, Nat.reduceBEq, reduceIte, reduceCtorEq, Int.reduceToNat, Int.reduceLE, Int.reduceLT, Int.reduceBEq, Int.reduceBNe]
  repeat (refine Cl.here ?_; simp only [go_sem, Nat.reduceAdd, Nat.reduceSub, Nat.reduceMul, Nat.reduceEqDiff, Nat.reduceLT, Nat.reduceLeDiff, Nat.reduceBEq, reduceIte, reduceCtorEq, Int.reduceToNat, Int.reduceLE, Int.reduceLT, Int.reduceBEq, Int.reduceBNe])
  have hwl := ivsIn_len hwi
  have hsep := hJ.sep
  rw [List.pairwise_iff_getElem] at hsep
  refine avcW_loop (fun env rows => ∃ i : Nat, i ≤ W.length ∧ env = [(5, .ref 0 1 0 0), (7, .ref 1 1 0 0), (9, .int .i64 i)] ∧ rows = [.live 66 3 [[.int .i64 (-1), .int .i64 20454, .pure 3 (els ps)]], .live 59 2 [[.int .i64 20454, .pure 2 (els W)]]])
    (fun env _ => match slot env 9 with | .int _ j => (W.length - j).toNat | _ => 0) ?_ ?_
  · (refine Cl.tr [some 2, some 4] [] rfl rfl (by simp only [go_sem, Nat.reduceAdd, Nat.reduceSub, Nat.reduceMul, Nat.reduceEqDiff, Nat.reduceLT, Nat.reduceLeDiff, Nat.reduceBEq, reduceIte, reduceCtorEq, Int.reduceToNat, Int.reduceLE, Int.reduceLT, Int.reduceBEq, Int.reduceBNe] <;> rfl) ?_; simp only [go_sem, Nat.reduceAdd, Nat.reduceSub, Nat.reduceMul, Nat.reduceEqDiff, Nat.reduceLT, Nat.reduceLeDiff, Nat.reduceBEq, reduceIte, reduceCtorEq, Int.reduceToNat, Int.reduceLE, Int.reduceLT, Int.reduceBEq, Int.reduceBNe])
    exact Cl.here ⟨0, by omega, rfl, rfl⟩
  · rintro env rows ⟨i, hi, rfl, rfl⟩
    simp only [go_sem, Nat.reduceAdd, Nat.reduceSub, Nat.reduceMul, Nat.reduceEqDiff, Nat.reduceLT, Nat.reduceLeDiff, Nat.reduceBEq, reduceIte, reduceCtorEq, Int.reduceToNat, Int.reduceLE, Int.reduceLT, Int.reduceBEq, Int.reduceBNe, a8, a8r0, a8r1, a8r2, a8r3, a8r4, a8r5, a8r6, a8r7, a8r8, a8r9, a8r10, a8r11, a8r12, a8r13, a8r14, a8r15, a8r16, a8r17, a8r18, a8r19, a8r20, a8r21, a8r22]
    (refine Cl.here ?_; simp only [go_sem, Nat.reduceAdd, Nat.reduceSub, Nat.reduceMul, Nat.reduceEqDiff, Nat.reduceLT, Nat.reduceLeDiff, Nat.reduceBEq, reduceIte, reduceCtorEq, Int.reduceToNat, Int.reduceLE, Int.reduceLT, Int.reduceBEq, Int.reduceBNe])
    refine condW_intro ?_ ?_ <;> intro hg1 <;> simp only [decide_eq_true_eq, decide_eq_false_iff_not, beq_iff_eq, beq_eq_false_iff_ne, bne_iff_ne, bne_eq_false_iff_eq, Bool.not_eq_true', Bool.not_eq_false', Int.not_lt, Int.not_le, ne_eq, Bool.and_eq_true, Bool.or_eq_true, Bool.or_eq_false_iff, Bool.and_eq_false_iff] at hg1 <;> simp only [go_sem, Nat.reduceAdd, Nat.reduceSub, Nat.reduceMul, Nat.reduceEqDiff, Nat.reduceLT, Nat.reduceLeDiff, Nat.reduceBEq, reduceIte, reduceCtorEq, Int.reduceToNat, Int.reduceLE, Int.reduceLT, Int.reduceBEq, Int.reduceBNe, a8, a8r0, a8r1, a8r2, a8r3, a8r4, a8r5, a8r6, a8r7, a8r8, a8r9, a8r10, a8r11, a8r12, a8r13, a8r14, a8r15, a8r16, a8r17, a8r18, a8r19, a8r20, a8r21, a8r22]
    · have hlt : i < W.length := by omega
      have hi0 : (0 : Int) ≤ i := by omega
      have hi1 : (i : Int) < W.length := by omega
      have hget : (els W).getD i [] = [.int .i64 W[i].fr, .int .i64 W[i].to] := by rw [els_getD hlt, cel_iv]
      have hne := hJ.ne _ (List.getElem_mem hlt)
      have havx := hav _ (List.getElem_mem hlt)
      have hprev : ∀ j (h : j < W.length), i = j + 1 → W[j].to < W[i].fr := fun j h e => hsep j i h hlt (by omega)
      have hw1 : IntKind.i64.wrap ((i : Int) + 1) = ((i + 1 : Nat) : Int) := by rw [wrap_i64 (by omega) (by omega)]; omega
      generalize W[i] = x at hget hne havx hprev
      have hdx : decide (x.to ≤ x.fr) = false := decide_eq_false (by omega)
      (refine Cl.here ?_; simp only [go_sem, Nat.reduceAdd, Nat.reduceSub, Nat.reduceMul, Nat.reduceEqDiff, Nat.reduceLT, Nat.reduceLeDiff, Nat.reduceBEq, reduceIte, reduceCtorEq, Int.reduceToNat, Int.reduceLE, Int.reduceLT, Int.reduceBEq, Int.reduceBNe])
      simp only [go_sem, Nat.reduceAdd, Nat.reduceSub, Nat.reduceMul, Nat.reduceEqDiff, Nat.reduceLT, Nat.reduceLeDiff, Nat.reduceBEq, reduceIte, reduceCtorEq, Int.reduceToNat, Int.reduceLE, Int.reduceLT, Int.reduceBEq, Int.reduceBNe, hi0, hi1, hget]
      refine avcW_of _ ?_ |> Cl.here
      by_cases hpos : 0 < i
      · have hd1 : decide ((0 : Int) < i) = true := decide_eq_true (by omega)
        have hwm : IntKind.i64.wrap ((i : Int) - 1) = ((i - 1 : Nat) : Int) := by rw [wrap_i64 (by omega) (by omega)]; omega
        have hgm : (els W).getD (i - 1) [] = [.int .i64 W[i - 1].fr, .int .i64 W[i - 1].to] := by rw [els_getD (by omega), cel_iv]
        have hdp := hprev (i - 1) (by omega) (by omega)
        generalize W[i - 1] = y at hgm hdp
        have hdy : decide (x.fr ≤ y.to) = false := decide_eq_false (by omega)
        have hm0 : (0 : Int) ≤ ((i - 1 : Nat) : Int) := by omega
        have hm1 : ((i - 1 : Nat) : Int) < W.length := by omega
        simp only [go_sem, Nat.reduceAdd, Nat.reduceSub, Nat.reduceMul, Nat.reduceEqDiff, Nat.reduceLT, Nat.reduceLeDiff, Nat.reduceBEq, reduceIte, reduceCtorEq, Int.reduceToNat, Int.reduceLE, Int.reduceLT, Int.reduceBEq, Int.reduceBNe, a8, a8r0, a8r1, a8r2, a8r3, a8r4, a8r5, a8r6, a8r7, a8r8, a8r9, a8r10, a8r11, a8r12, a8r13, a8r14, a8r15, a8r16, a8r17, a8r18, a8r19, a8r20, a8r21, a8r22, hdx, hd1, hwm, hgm, hm0, hm1, hdy]
        refine avc_loop (fun env rows => ∃ j : Nat, j ≤ ps.length ∧ env = [(5, .ref 0 1 0 0), (7, .ref 1 1 0 0), (9, .int .i64 i), (10, .ref 2 1 0 0), (11, .int .i64 j)] ∧ rows = [.live 66 3 [[.int .i64 (-1), .int .i64 20454, .pure 3 (els ps)]], .live 59 2 [[.int .i64 20454, .pure 2 (els W)]], .live 26 2 [[.int .i64 x.fr, .int .i64 x.to]]])
          (fun env _ => match slot env 11 with | .int _ j => (ps.length - j).toNat | _ => 0) ?_ ?_
        · exact Cl.here ⟨0, by omega, rfl, rfl⟩
        · rintro env rows ⟨j, hj, rfl, rfl⟩
          simp only [go_sem, Nat.reduceAdd, Nat.reduceSub, Nat.reduceMul, Nat.reduceEqDiff, Nat.reduceLT, Nat.reduceLeDiff, Nat.reduceBEq, reduceIte, reduceCtorEq, Int.reduceToNat, Int.reduceLE, Int.reduceLT, Int.reduceBEq, Int.reduceBNe, a8, a8r0, a8r1, a8r2, a8r3, a8r4, a8r5, a8r6, a8r7, a8r8, a8r9, a8r10, a8r11, a8r12, a8r13, a8r14, a8r15, a8r16, a8r17, a8r18, a8r19, a8r20, a8r21, a8r22]
          refine condC_intro ?_ ?_ <;> intro hg2 <;> simp only [decide_eq_true_eq, decide_eq_false_iff_not, beq_iff_eq, beq_eq_false_iff_ne, bne_iff_ne, bne_eq_false_iff_eq, Bool.not_eq_true', Bool.not_eq_false', Int.not_lt, Int.not_le, ne_eq, Bool.and_eq_true, Bool.or_eq_true, Bool.or_eq_false_iff, Bool.and_eq_false_iff] at hg2 <;> simp only [go_sem, Nat.reduceAdd, Nat.reduceSub, Nat.reduceMul, Nat.reduceEqDiff, Nat.reduceLT, Nat.reduceLeDiff, Nat.reduceBEq, reduceIte, reduceCtorEq, Int.reduceToNat, Int.reduceLE, Int.reduceLT, Int.reduceBEq, Int.reduceBNe, a8, a8r0, a8r1, a8r2, a8r3, a8r4, a8r5, a8r6, a8r7, a8r8, a8r9, a8r10, a8r11, a8r12, a8r13, a8r14, a8r15, a8r16, a8r17, a8r18, a8r19, a8r20, a8r21, a8r22]
          · have hjl : j < ps.length := by omega
            have hj0 : (0 : Int) ≤ j := by omega
            have hj1 : (j : Int) < ps.length := by omega
            have hgj : (els ps).getD j [] = [.int .i64 ps[j].fr, .int .i64 ps[j].to, .pure 2 (els ps[j].br)] := by rw [els_getD hjl, cel_pre]
            have hpj := hpm _ (List.getElem_mem hjl)
            have havj := havx _ (List.getElem_mem hjl)
            have hwj : IntKind.i64.wrap ((j : Int) + 1) = ((j + 1 : Nat) : Int) := by rw [wrap_i64 (by omega) (by omega)]; omega
            generalize ps[j] = p at hgj hpj havj
            refine avc_loop (fun env rows => ∃ n : Nat, n ≤ p.br.length ∧ env = [(5, .ref 0 1 0 0), (7, .ref 1 1 0 0), (9, .int .i64 i), (10, .ref 2 1 0 0), (11, .int .i64 j), (12, .int .i64 n)] ∧ rows = [.live 66 3 [[.int .i64 (-1), .int .i64 20454, .pure 3 (els ps)]], .live 59 2 [[.int .i64 20454, .pure 2 (els W)]], .live 26 2 [[.int .i64 x.fr, .int .i64 x.to]]])
              (fun env _ => match slot env 12 with | .int _ j => (p.br.length - j).toNat | _ => 0) ?_ ?_
            · exact Cl.here ⟨0, by omega, rfl, rfl⟩
            · rintro env rows ⟨n, hn, rfl, rfl⟩
              simp only [go_sem, Nat.reduceAdd, Nat.reduceSub, Nat.reduceMul, Nat.reduceEqDiff, Nat.reduceLT, Nat.reduceLeDiff, Nat.reduceBEq, reduceIte, reduceCtorEq, Int.reduceToNat, Int.reduceLE, Int.reduceLT, Int.reduceBEq, Int.reduceBNe, a8, a8r0, a8r1, a8r2, a8r3, a8r4, a8r5, a8r6, a8r7, a8r8, a8r9, a8r10, a8r11, a8r12, a8r13, a8r14, a8r15, a8r16, a8r17, a8r18, a8r19, a8r20, a8r21, a8r22, hj0, hj1, hgj]
              refine condC_intro ?_ ?_ <;> intro hg3 <;> simp only [decide_eq_true_eq, decide_eq_false_iff_not, beq_iff_eq, beq_eq_false_iff_ne, bne_iff_ne, bne_eq_false_iff_eq, Bool.not_eq_true', Bool.not_eq_false', Int.not_lt, Int.not_le, ne_eq, Bool.and_eq_true, Bool.or_eq_true, Bool.or_eq_false_iff, Bool.and_eq_false_iff] at hg3 <;> simp only [go_sem, Nat.reduceAdd, Nat.reduceSub, Nat.reduceMul, Nat.reduceEqDiff, Nat.reduceLT, Nat.reduceLeDiff, Nat.reduceBEq, reduceIte, reduceCtorEq, Int.reduceToNat, Int.reduceLE, Int.reduceLT, Int.reduceBEq, Int.reduceBNe, a8, a8r0, a8r1, a8r2, a8r3, a8r4, a8r5, a8r6, a8r7, a8r8, a8r9, a8r10, a8r11, a8r12, a8r13, a8r14, a8r15, a8r16, a8r17, a8r18, a8r19, a8r20, a8r21, a8r22, hj0, hj1, hgj]
              · have hnl : n < p.br.length := by omega
                have hn0 : (0 : Int) ≤ n := by omega
                have hn1 : (n : Int) < p.br.length := by omega
                have hgn : (els p.br).getD n [] = [.int .i64 p.br[n].fr, .int .i64 p.br[n].to] := by rw [els_getD hnl, cel_iv]
                have hbn := havj _ (List.getElem_mem hnl)
                have hwn : IntKind.i64.wrap ((n : Int) + 1) = ((n + 1 : Nat) : Int) := by rw [wrap_i64 (by omega) (by omega)]; omega
                generalize p.br[n] = b at hgn hbn
                simp only [go_sem, Nat.reduceAdd, Nat.reduceSub, Nat.reduceMul, Nat.reduceEqDiff, Nat.reduceLT, Nat.reduceLeDiff, Nat.reduceBEq, reduceIte, reduceCtorEq, Int.reduceToNat, Int.reduceLE, Int.reduceLT, Int.reduceBEq, Int.reduceBNe, a8, a8r0, a8r1, a8r2, a8r3, a8r4, a8r5, a8r6, a8r7, a8r8, a8r9, a8r10, a8r11, a8r12, a8r13, a8r14, a8r15, a8r16, a8r17, a8r18, a8r19, a8r20, a8r21, a8r22, hn0, hn1, hgn]
                repeat' (first | (refine grdC_intro ?_ ?_ <;> intro hg <;> (have hp := hg; try simp only [decide_eq_true_eq, decide_eq_false_iff_not, beq_iff_eq, beq_eq_false_iff_ne, bne_iff_ne, bne_eq_false_iff_eq, Bool.not_eq_true', Bool.not_eq_false', Int.not_lt, Int.not_le, ne_eq, Bool.and_eq_true, Bool.or_eq_true, Bool.or_eq_false_iff, Bool.and_eq_false_iff] at hp) <;> (first | omega | (simp only [go_sem, Nat.reduceAdd, Nat.reduceSub, Nat.reduceMul, Nat.reduceEqDiff, Nat.reduceLT, Nat.reduceLeDiff, Nat.reduceBEq, reduceIte, reduceCtorEq, Int.reduceToNat, Int.reduceLE, Int.reduceLT, Int.reduceBEq, Int.reduceBNe, hg, a8, a8r0, a8r1, a8r2, a8r3, a8r4, a8r5, a8r6, a8r7, a8r8, a8r9, a8r10, a8r11, a8r12, a8r13, a8r14, a8r15, a8r16, a8r17, a8r18, a8r19, a8r20, a8r21, a8r22, hwn]; clear hg))) | (refine grdD_intro ?_ ?_ <;> intro hg <;> (have hp := hg; try simp only [decide_eq_true_eq, decide_eq_false_iff_not, beq_iff_eq, beq_eq_false_iff_ne, bne_iff_ne, bne_eq_false_iff_eq, Bool.not_eq_true', Bool.not_eq_false', Int.not_lt, Int.not_le, ne_eq, Bool.and_eq_true, Bool.or_eq_true, Bool.or_eq_false_iff, Bool.and_eq_false_iff] at hp) <;> (first | omega | (simp only [go_sem, Nat.reduceAdd, Nat.reduceSub, Nat.reduceMul, Nat.reduceEqDiff, Nat.reduceLT, Nat.reduceLeDiff, Nat.reduceBEq, reduceIte, reduceCtorEq, Int.reduceToNat, Int.reduceLE, Int.reduceLT, Int.reduceBEq, Int.reduceBNe, hg, a8, a8r0, a8r1, a8r2, a8r3, a8r4, a8r5, a8r6, a8r7, a8r8, a8r9, a8r10, a8r11, a8r12, a8r13, a8r14, a8r15, a8r16, a8r17, a8r18, a8r19, a8r20, a8r21, a8r22, hwn]; clear hg))) | (refine condC_intro ?_ ?_ <;> intro hg <;> (have hp := hg; try simp only [decide_eq_true_eq, decide_eq_false_iff_not, beq_iff_eq, beq_eq_false_iff_ne, bne_iff_ne, bne_eq_false_iff_eq, Bool.not_eq_true', Bool.not_eq_false', Int.not_lt, Int.not_le, ne_eq, Bool.and_eq_true, Bool.or_eq_true, Bool.or_eq_false_iff, Bool.and_eq_false_iff] at hp) <;> (first | omega | (simp only [go_sem, Nat.reduceAdd, Nat.reduceSub, Nat.reduceMul, Nat.reduceEqDiff, Nat.reduceLT, Nat.reduceLeDiff, Nat.reduceBEq, reduceIte, reduceCtorEq, Int.reduceToNat, Int.reduceLE, Int.reduceLT, Int.reduceBEq, Int.reduceBNe, hg, a8, a8r0, a8r1, a8r2, a8r3, a8r4, a8r5, a8r6, a8r7, a8r8, a8r9, a8r10, a8r11, a8r12, a8r13, a8r14, a8r15, a8r16, a8r17, a8r18, a8r19, a8r20, a8r21, a8r22, hwn]; clear hg))) | (refine condW_intro ?_ ?_ <;> intro hg <;> (have hp := hg; try simp only [decide_eq_true_eq, decide_eq_false_iff_not, beq_iff_eq, beq_eq_false_iff_ne, bne_iff_ne, bne_eq_false_iff_eq, Bool.not_eq_true', Bool.not_eq_false', Int.not_lt, Int.not_le, ne_eq, Bool.and_eq_true, Bool.or_eq_true, Bool.or_eq_false_iff, Bool.and_eq_false_iff] at hp) <;> (first | omega | (simp only [go_sem, Nat.reduceAdd, Nat.reduceSub, Nat.reduceMul, Nat.reduceEqDiff, Nat.reduceLT, Nat.reduceLeDiff, Nat.reduceBEq, reduceIte, reduceCtorEq, Int.reduceToNat, Int.reduceLE, Int.reduceLT, Int.reduceBEq, Int.reduceBNe, hg, a8, a8r0, a8r1, a8r2, a8r3, a8r4, a8r5, a8r6, a8r7, a8r8, a8r9, a8r10, a8r11, a8r12, a8r13, a8r14, a8r15, a8r16, a8r17, a8r18, a8r19, a8r20, a8r21, a8r22, hwn]; clear hg))))
                all_goals (
                  (refine Cl.tr [some 0, some 1, some 2] [] rfl rfl (by simp only [go_sem, Nat.reduceAdd, Nat.reduceSub, Nat.reduceMul, Nat.reduceEqDiff, Nat.reduceLT, Nat.reduceLeDiff, Nat.reduceBEq, reduceIte, reduceCtorEq, Int.reduceToNat, Int.reduceLE, Int.reduceLT, Int.reduceBEq, Int.reduceBNe] <;> rfl) ?_; simp only [go_sem, Nat.reduceAdd, Nat.reduceSub, Nat.reduceMul, Nat.reduceEqDiff, Nat.reduceLT, Nat.reduceLeDiff, Nat.reduceBEq, reduceIte, reduceCtorEq, Int.reduceToNat, Int.reduceLE, Int.reduceLT, Int.reduceBEq, Int.reduceBNe])
                  refine Cl.here ⟨⟨n + 1, by omega, rfl, rfl⟩, ?_⟩
                  simp only [go_sem, Nat.reduceAdd, Nat.reduceSub, Nat.reduceMul, Nat.reduceEqDiff, Nat.reduceLT, Nat.reduceLeDiff, Nat.reduceBEq, reduceIte, reduceCtorEq, Int.reduceToNat, Int.reduceLE, Int.reduceLT, Int.reduceBEq, Int.reduceBNe]
                  omega)
              · rw [hwj]
                refine Cl.here ⟨⟨j + 1, by omega, rfl, rfl⟩, ?_⟩
                simp only [go_sem, Nat.reduceAdd, Nat.reduceSub, Nat.reduceMul, Nat.reduceEqDiff, Nat.reduceLT, Nat.reduceLeDiff, Nat.reduceBEq, reduceIte, reduceCtorEq, Int.reduceToNat, Int.reduceLE, Int.reduceLT, Int.reduceBEq, Int.reduceBNe]
                omega
          · (refine Cl.here ?_; simp only [go_sem, Nat.reduceAdd, Nat.reduceSub, Nat.reduceMul, Nat.reduceEqDiff, Nat.reduceLT, Nat.reduceLeDiff, Nat.reduceBEq, reduceIte, reduceCtorEq, Int.reduceToNat, Int.reduceLE, Int.reduceLT, Int.reduceBEq, Int.reduceBNe])
            rw [hw1]
            (refine Cl.tr [some 0, some 1] [] rfl rfl (by simp only [go_sem, Nat.reduceAdd, Nat.reduceSub, Nat.reduceMul, Nat.reduceEqDiff, Nat.reduceLT, Nat.reduceLeDiff, Nat.reduceBEq, reduceIte, reduceCtorEq, Int.reduceToNat, Int.reduceLE, Int.reduceLT, Int.reduceBEq, Int.reduceBNe] <;> rfl) ?_; simp only [go_sem, Nat.reduceAdd, Nat.reduceSub, Nat.reduceMul, Nat.reduceEqDiff, Nat.reduceLT, Nat.reduceLeDiff, Nat.reduceBEq, reduceIte, reduceCtorEq, Int.reduceToNat, Int.reduceLE, Int.reduceLT, Int.reduceBEq, Int.reduceBNe])
            refine Cl.here ⟨⟨i + 1, by omega, rfl, rfl⟩, ?_⟩
            simp only [go_sem, Nat.reduceAdd, Nat.reduceSub, Nat.reduceMul, Nat.reduceEqDiff, Nat.reduceLT, Nat.reduceLeDiff, Nat.reduceBEq, reduceIte, reduceCtorEq, Int.reduceToNat, Int.reduceLE, Int.reduceLT, Int.reduceBEq, Int.reduceBNe]
            omega
      · have hd0 : decide ((0 : Int) < i) = false := decide_eq_false (by omega)
        simp only [go_sem, Nat.reduceAdd, Nat.reduceSub, Nat.reduceMul, Nat.reduceEqDiff, Nat.reduceLT, Nat.reduceLeDiff, Nat.reduceBEq, reduceIte, reduceCtorEq, Int.reduceToNat, Int.reduceLE, Int.reduceLT, Int.reduceBEq, Int.reduceBNe, a8, a8r0, a8r1, a8r2, a8r3, a8r4, a8r5, a8r6, a8r7, a8r8, a8r9, a8r10, a8r11, a8r12, a8r13, a8r14, a8r15, a8r16, a8r17, a8r18, a8r19, a8r20, a8r21, a8r22, hdx, hd0]
        refine avc_loop (fun env rows => ∃ j : Nat, j ≤ ps.length ∧ env = [(5, .ref 0 1 0 0), (7, .ref 1 1 0 0), (9, .int .i64 i), (10, .ref 2 1 0 0), (11, .int .i64 j)] ∧ rows = [.live 66 3 [[.int .i64 (-1), .int .i64 20454, .pure 3 (els ps)]], .live 59 2 [[.int .i64 20454, .pure 2 (els W)]], .live 26 2 [[.int .i64 x.fr, .int .i64 x.to]]])
          (fun env _ => match slot env 11 with | .int _ j => (ps.length - j).toNat | _ => 0) ?_ ?_
        · exact Cl.here ⟨0, by omega, rfl, rfl⟩
        · rintro env rows ⟨j, hj, rfl, rfl⟩
          simp only [go_sem, Nat.reduceAdd, Nat.reduceSub, Nat.reduceMul, Nat.reduceEqDiff, Nat.reduceLT, Nat.reduceLeDiff, Nat.reduceBEq, reduceIte, reduceCtorEq, Int.reduceToNat, Int.reduceLE, Int.reduceLT, Int.reduceBEq, Int.reduceBNe, a8, a8r0, a8r1, a8r2, a8r3, a8r4, a8r5, a8r6, a8r7, a8r8, a8r9, a8r10, a8r11, a8r12, a8r13, a8r14, a8r15, a8r16, a8r17, a8r18, a8r19, a8r20, a8r21, a8r22]
          refine condC_intro ?_ ?_ <;> intro hg2 <;> simp only [decide_eq_true_eq, decide_eq_false_iff_not, beq_iff_eq, beq_eq_false_iff_ne, bne_iff_ne, bne_eq_false_iff_eq, Bool.not_eq_true', Bool.not_eq_false', Int.not_lt, Int.not_le, ne_eq, Bool.and_eq_true, Bool.or_eq_true, Bool.or_eq_false_iff, Bool.and_eq_false_iff] at hg2 <;> simp only [go_sem, Nat.reduceAdd, Nat.reduceSub, Nat.reduceMul, Nat.reduceEqDiff, Nat.reduceLT, Nat.reduceLeDiff, Nat.reduceBEq, reduceIte, reduceCtorEq, Int.reduceToNat, Int.reduceLE, Int.reduceLT, Int.reduceBEq, Int.reduceBNe, a8, a8r0, a8r1, a8r2, a8r3, a8r4, a8r5, a8r6, a8r7, a8r8, a8r9, a8r10, a8r11, a8r12, a8r13, a8r14, a8r15, a8r16, a8r17, a8r18, a8r19, a8r20, a8r21, a8r22]
          · have hjl : j < ps.length := by omega
            have hj0 : (0 : Int) ≤ j := by omega
            have hj1 : (j : Int) < ps.length := by omega
            have hgj : (els ps).getD j [] = [.int .i64 ps[j].fr, .int .i64 ps[j].to, .pure 2 (els ps[j].br)] := by rw [els_getD hjl, cel_pre]
            have hpj := hpm _ (List.getElem_mem hjl)
            have havj := havx _ (List.getElem_mem hjl)
            have hwj : IntKind.i64.wrap ((j : Int) + 1) = ((j + 1 : Nat) : Int) := by rw [wrap_i64 (by omega) (by omega)]; omega
            generalize ps[j] = p at hgj hpj havj
            refine avc_loop (fun env rows => ∃ n : Nat, n ≤ p.br.length ∧ env = [(5, .ref 0 1 0 0), (7, .ref 1 1 0 0), (9, .int .i64 i), (10, .ref 2 1 0 0), (11, .int .i64 j), (12, .int .i64 n)] ∧ rows = [.live 66 3 [[.int .i64 (-1), .int .i64 20454, .pure 3 (els ps)]], .live 59 2 [[.int .i64 20454, .pure 2 (els W)]], .live 26 2 [[.int .i64 x.fr, .int .i64 x.to]]])
              (fun env _ => match slot env 12 with | .int _ j => (p.br.length - j).toNat | _ => 0) ?_ ?_
            · exact Cl.here ⟨0, by omega, rfl, rfl⟩
            · rintro env rows ⟨n, hn, rfl, rfl⟩
              simp only [go_sem, Nat.reduceAdd, Nat.reduceSub, Nat.reduceMul, Nat.reduceEqDiff, Nat.reduceLT, Nat.reduceLeDiff, Nat.reduceBEq, reduceIte, reduceCtorEq, Int.reduceToNat, Int.reduceLE, Int.reduceLT, Int.reduceBEq, Int.reduceBNe, a8, a8r0, a8r1, a8r2, a8r3, a8r4, a8r5, a8r6, a8r7, a8r8, a8r9, a8r10, a8r11, a8r12, a8r13, a8r14, a8r15, a8r16, a8r17, a8r18, a8r19, a8r20, a8r21, a8r22, hj0, hj1, hgj]
              refine condC_intro ?_ ?_ <;> intro hg3 <;> simp only [decide_eq_true_eq, decide_eq_false_iff_not, beq_iff_eq, beq_eq_false_iff_ne, bne_iff_ne, bne_eq_false_iff_eq, Bool.not_eq_true', Bool.not_eq_false', Int.not_lt, Int.not_le, ne_eq, Bool.and_eq_true, Bool.or_eq_true, Bool.or_eq_false_iff, Bool.and_eq_false_iff] at hg3 <;> simp only [go_sem, Nat.reduceAdd, Nat.reduceSub, Nat.reduceMul, Nat.reduceEqDiff, Nat.reduceLT, Nat.reduceLeDiff, Nat.reduceBEq, reduceIte, reduceCtorEq, Int.reduceToNat, Int.reduceLE, Int.reduceLT, Int.reduceBEq, Int.reduceBNe, a8, a8r0, a8r1, a8r2, a8r3, a8r4, a8r5, a8r6, a8r7, a8r8, a8r9, a8r10, a8r11, a8r12, a8r13, a8r14, a8r15, a8r16, a8r17, a8r18, a8r19, a8r20, a8r21, a8r22, hj0, hj1, hgj]
              · have hnl : n < p.br.length := by omega
                have hn0 : (0 : Int) ≤ n := by omega
                have hn1 : (n : Int) < p.br.length := by omega
                have hgn : (els p.br).getD n [] = [.int .i64 p.br[n].fr, .int .i64 p.br[n].to] := by rw [els_getD hnl, cel_iv]
                have hbn := havj _ (List.getElem_mem hnl)
                have hwn : IntKind.i64.wrap ((n : Int) + 1) = ((n + 1 : Nat) : Int) := by rw [wrap_i64 (by omega) (by omega)]; omega
                generalize p.br[n] = b at hgn hbn
                simp only [go_sem, Nat.reduceAdd, Nat.reduceSub, Nat.reduceMul, Nat.reduceEqDiff, Nat.reduceLT, Nat.reduceLeDiff, Nat.reduceBEq, reduceIte, reduceCtorEq, Int.reduceToNat, Int.reduceLE, Int.reduceLT, Int.reduceBEq, Int.reduceBNe, a8, a8r0, a8r1, a8r2, a8r3, a8r4, a8r5, a8r6, a8r7, a8r8, a8r9, a8r10, a8r11, a8r12, a8r13, a8r14, a8r15, a8r16, a8r17, a8r18, a8r19, a8r20, a8r21, a8r22, hn0, hn1, hgn]
                repeat' (first | (refine grdC_intro ?_ ?_ <;> intro hg <;> (have hp := hg; try simp only [decide_eq_true_eq, decide_eq_false_iff_not, beq_iff_eq, beq_eq_false_iff_ne, bne_iff_ne, bne_eq_false_iff_eq, Bool.not_eq_true', Bool.not_eq_false', Int.not_lt, Int.not_le, ne_eq, Bool.and_eq_true, Bool.or_eq_true, Bool.or_eq_false_iff, Bool.and_eq_false_iff] at hp) <;> (first | omega | (simp only [go_sem, Nat.reduceAdd, Nat.reduceSub, Nat.reduceMul, Nat.reduceEqDiff, Nat.reduceLT, Nat.reduceLeDiff, Nat.reduceBEq, reduceIte, reduceCtorEq, Int.reduceToNat, Int.reduceLE, Int.reduceLT, Int.reduceBEq, Int.reduceBNe, hg, a8, a8r0, a8r1, a8r2, a8r3, a8r4, a8r5, a8r6, a8r7, a8r8, a8r9, a8r10, a8r11, a8r12, a8r13, a8r14, a8r15, a8r16, a8r17, a8r18, a8r19, a8r20, a8r21, a8r22, hwn]; clear hg))) | (refine grdD_intro ?_ ?_ <;> intro hg <;> (have hp := hg; try simp only [decide_eq_true_eq, decide_eq_false_iff_not, beq_iff_eq, beq_eq_false_iff_ne, bne_iff_ne, bne_eq_false_iff_eq, Bool.not_eq_true', Bool.not_eq_false', Int.not_lt, Int.not_le, ne_eq, Bool.and_eq_true, Bool.or_eq_true, Bool.or_eq_false_iff, Bool.and_eq_false_iff] at hp) <;> (first | omega | (simp only [go_sem, Nat.reduceAdd, Nat.reduceSub, Nat.reduceMul, Nat.reduceEqDiff, Nat.reduceLT, Nat.reduceLeDiff, Nat.reduceBEq, reduceIte, reduceCtorEq, Int.reduceToNat, Int.reduceLE, Int.reduceLT, Int.reduceBEq, Int.reduceBNe, hg, a8, a8r0, a8r1, a8r2, a8r3, a8r4, a8r5, a8r6, a8r7, a8r8, a8r9, a8r10, a8r11, a8r12, a8r13, a8r14, a8r15, a8r16, a8r17, a8r18, a8r19, a8r20, a8r21, a8r22, hwn]; clear hg))) | (refine condC_intro ?_ ?_ <;> intro hg <;> (have hp := hg; try simp only [decide_eq_true_eq, decide_eq_false_iff_not, beq_iff_eq, beq_eq_false_iff_ne, bne_iff_ne, bne_eq_false_iff_eq, Bool.not_eq_true', Bool.not_eq_false', Int.not_lt, Int.not_le, ne_eq, Bool.and_eq_true, Bool.or_eq_true, Bool.or_eq_false_iff, Bool.and_eq_false_iff] at hp) <;> (first | omega | (simp only [go_sem, Nat.reduceAdd, Nat.reduceSub, Nat.reduceMul, Nat.reduceEqDiff, Nat.reduceLT, Nat.reduceLeDiff, Nat.reduceBEq, reduceIte, reduceCtorEq, Int.reduceToNat, Int.reduceLE, Int.reduceLT, Int.reduceBEq, Int.reduceBNe, hg, a8, a8r0, a8r1, a8r2, a8r3, a8r4, a8r5, a8r6, a8r7, a8r8, a8r9, a8r10, a8r11, a8r12, a8r13, a8r14, a8r15, a8r16, a8r17, a8r18, a8r19, a8r20, a8r21, a8r22, hwn]; clear hg))) | (refine condW_intro ?_ ?_ <;> intro hg <;> (have hp := hg; try simp only [decide_eq_true_eq, decide_eq_false_iff_not, beq_iff_eq, beq_eq_false_iff_ne, bne_iff_ne, bne_eq_false_iff_eq, Bool.not_eq_true', Bool.not_eq_false', Int.not_lt, Int.not_le, ne_eq, Bool.and_eq_true, Bool.or_eq_true, Bool.or_eq_false_iff, Bool.and_eq_false_iff] at hp) <;> (first | omega | (simp only [go_sem, Nat.reduceAdd, Nat.reduceSub, Nat.reduceMul, Nat.reduceEqDiff, Nat.reduceLT, Nat.reduceLeDiff, Nat.reduceBEq, reduceIte, reduceCtorEq, Int.reduceToNat, Int.reduceLE, Int.reduceLT, Int.reduceBEq, Int.reduceBNe, hg, a8, a8r0, a8r1, a8r2, a8r3, a8r4, a8r5, a8r6, a8r7, a8r8, a8r9, a8r10, a8r11, a8r12, a8r13, a8r14, a8r15, a8r16, a8r17, a8r18, a8r19, a8r20, a8r21, a8r22, hwn]; clear hg))))
                all_goals (
                  (refine Cl.tr [some 0, some 1, some 2] [] rfl rfl (by simp only [go_sem, Nat.reduceAdd, Nat.reduceSub, Nat.reduceMul, Nat.reduceEqDiff, Nat.reduceLT, Nat.reduceLeDiff, Nat.reduceBEq, reduceIte, reduceCtorEq, Int.reduceToNat, Int.reduceLE, Int.reduceLT, Int.reduceBEq, Int.reduceBNe] <;> rfl) ?_; simp only [go_sem, Nat.reduceAdd, Nat.reduceSub, Nat.reduceMul, Nat.reduceEqDiff, Nat.reduceLT, Nat.reduceLeDiff, Nat.reduceBEq, reduceIte, reduceCtorEq, Int.reduceToNat, Int.reduceLE, Int.reduceLT, Int.reduceBEq, Int.reduceBNe])
                  refine Cl.here ⟨⟨n + 1, by omega, rfl, rfl⟩, ?_⟩
                  simp only [go_sem, Nat.reduceAdd, Nat.reduceSub, Nat.reduceMul, Nat.reduceEqDiff, Nat.reduceLT, Nat.reduceLeDiff, Nat.reduceBEq, reduceIte, reduceCtorEq, Int.reduceToNat, Int.reduceLE, Int.reduceLT, Int.reduceBEq, Int.reduceBNe]
                  omega)
              · rw [hwj]
                refine Cl.here ⟨⟨j + 1, by omega, rfl, rfl⟩, ?_⟩
                simp only [go_sem, Nat.reduceAdd, Nat.reduceSub, Nat.reduceMul, Nat.reduceEqDiff, Nat.reduceLT, Nat.reduceLeDiff, Nat.reduceBEq, reduceIte, reduceCtorEq, Int.reduceToNat, Int.reduceLE, Int.reduceLT, Int.reduceBEq, Int.reduceBNe]
                omega
          · (refine Cl.here ?_; simp only [go_sem, Nat.reduceAdd, Nat.reduceSub, Nat.reduceMul, Nat.reduceEqDiff, Nat.reduceLT, Nat.reduceLeDiff, Nat.reduceBEq, reduceIte, reduceCtorEq, Int.reduceToNat, Int.reduceLE, Int.reduceLT, Int.reduceBEq, Int.reduceBNe])
            rw [hw1]
            (refine Cl.tr [some 0, some 1] [] rfl rfl (by simp only [go_sem, Nat.reduceAdd, Nat.reduceSub, Nat.reduceMul, Nat.reduceEqDiff, Nat.reduceLT, Nat.reduceLeDiff, Nat.reduceBEq, reduceIte, reduceCtorEq, Int.reduceToNat, Int.reduceLE, Int.reduceLT, Int.reduceBEq, Int.reduceBNe] <;> rfl) ?_; simp only [go_sem, Nat.reduceAdd, Nat.reduceSub, Nat.reduceMul, Nat.reduceEqDiff, Nat.reduceLT, Nat.reduceLeDiff, Nat.reduceBEq, reduceIte, reduceCtorEq, Int.reduceToNat, Int.reduceLE, Int.reduceLT, Int.reduceBEq, Int.reduceBNe])
            refine Cl.here ⟨⟨i + 1, by omega, rfl, rfl⟩, ?_⟩
            simp only [go_sem, Nat.reduceAdd, Nat.reduceSub, Nat.reduceMul, Nat.reduceEqDiff, Nat.reduceLT, Nat.reduceLeDiff, Nat.reduceBEq, reduceIte, reduceCtorEq, Int.reduceToNat, Int.reduceLE, Int.reduceLT, Int.reduceBEq, Int.reduceBNe]
            omega
    · repeat (refine Cl.here ?_; simp only [go_sem, Nat.reduceAdd, Nat.reduceSub, Nat.reduceMul, Nat.reduceEqDiff, Nat.reduceLT, Nat.reduceLeDiff, Nat.reduceBEq, reduceIte, reduceCtorEq, Int.reduceToNat, Int.reduceLE, Int.reduceLT, Int.reduceBEq, Int.reduceBNe])
      refine callC_det wsane_ok rfl rfl ?_
      simp only [go_sem, Nat.reduceAdd, Nat.reduceSub, Nat.reduceMul, Nat.reduceEqDiff, Nat.reduceLT, Nat.reduceLeDiff, Nat.reduceBEq, reduceIte, reduceCtorEq, Int.reduceToNat, Int.reduceLE, Int.reduceLT, Int.reduceBEq, Int.reduceBNe]
      (refine Cl.here ?_; simp only [go_sem, Nat.reduceAdd, Nat.reduceSub, Nat.reduceMul, Nat.reduceEqDiff, Nat.reduceLT, Nat.reduceLeDiff, Nat.reduceBEq, reduceIte, reduceCtorEq, Int.reduceToNat, Int.reduceLE, Int.reduceLT, Int.reduceBEq, Int.reduceBNe])
      exact Cl.fin rfl rfl

end Go.Proofs.Ytjacobmkfkmdiaa
