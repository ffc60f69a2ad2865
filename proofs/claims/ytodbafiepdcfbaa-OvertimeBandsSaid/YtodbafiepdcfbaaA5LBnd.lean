/- OvertimeBands: the walk. -/
import Derived.Test.YtodbafiepdcfbaaA5Sane
import Derived.Test.YtodbafiepdcfbaaA5Got
import Derived.Test.YtodbafiepdcfbaaA5Wks
import Derived.Test.YtodbafiepdcfbaaA5Bnd
import Derived.Test.YtodbafiepdcfbaaA5BndPl
set_option linter.unusedSimpArgs false
set_option linter.unusedVariables false
set_option linter.unusedSectionVars false
namespace Go.Proofs.Ytodbafiepdcfbaa
open Go Go.Abs
set_option linter.unusedSimpArgs false
set_option linter.unusedVariables false

theorem monday_ok (d : Int) (h0 : 0 ≤ d) (h1 : d ≤ 1000000) : AFn Try.prog 24 [.int .i64 d] [] (fun v rs => v = .int .i64 (mon d) ∧ rs = []) := by
  refine afn Try.func24 a24_ok (by simp [a24]) ?_
  simp only [go_sem, Nat.reduceAdd, Nat.reduceSub, Nat.reduceMul, Nat.reduceEqDiff, Nat.reduceLT, Nat.reduceLeDiff, Nat.reduceBEq, reduceIte, reduceCtorEq, Int.reduceToNat, Int.reduceLE, Int.reduceLT, Int.reduceBEq, Int.reduceBNe, a24, a24r0, a24r1]
  have e1 : (d + 3).tmod 7 = (d + 3) % 7 := Int.tmod_eq_emod_of_nonneg (by omega)
  rw [wrap_i64 (x := d + 3) (by omega) (by omega)]
  refine ⟨by decide, ?_⟩
  rw [e1, wrap_i64 (by omega) (by omega)]
  exact Cl.fin rfl ⟨rfl, rfl⟩

theorem named_ok (b : ByteArray) (T : List Tm) (hT : T.length ≤ 1000000) : AFn Try.prog 25 [.pure 2 (els T), .str b] [] (fun v rs => v = .int .i64 (namedL b T) ∧ rs = []) := by
  refine afn Try.func25 a25_ok (by simp [a25]) ?_
  simp only [go_sem, Nat.reduceAdd, Nat.reduceSub, Nat.reduceMul, Nat.reduceEqDiff, Nat.reduceLT, Nat.reduceLeDiff, Nat.reduceBEq, reduceIte, reduceCtorEq, Int.reduceToNat, Int.reduceLE, Int.reduceLT, Int.reduceBEq, Int.reduceBNe, a25, a25r0, a25r1, a25r2, a25r3, a25r4, a25r5, a25r6]
  refine avc_loop (fun env rows => ∃ i : Nat, i ≤ T.length ∧ env = [(0, .pure 2 (els T)), (1, .str b), (5, .int .i64 i)] ∧ rows = [] ∧ namedL b (T.drop i) = namedL b T)
    (fun env _ => match slot env 5 with | .int _ j => (T.length - j).toNat | _ => 0) ?_ ?_
  · exact Cl.here ⟨0, by omega, rfl, rfl, rfl⟩
  rintro env rows ⟨i, hi, rfl, rfl, hd⟩
  have hw1 : IntKind.i64.wrap ((i : Int) + 1) = ((i + 1 : Nat) : Int) := by rw [wrap_i64 (by omega) (by omega)]; omega
  simp only [go_sem, Nat.reduceAdd, Nat.reduceSub, Nat.reduceMul, Nat.reduceEqDiff, Nat.reduceLT, Nat.reduceLeDiff, Nat.reduceBEq, reduceIte, reduceCtorEq, Int.reduceToNat, Int.reduceLE, Int.reduceLT, Int.reduceBEq, Int.reduceBNe, a25, a25r0, a25r1, a25r2, a25r3, a25r4, a25r5, a25r6]
  refine condC_intro ?_ ?_ <;> intro hg1 <;> simp only [decide_eq_true_eq, decide_eq_false_iff_not, beq_iff_eq, beq_eq_false_iff_ne, bne_iff_ne, bne_eq_false_iff_eq, Bool.not_eq_true', Bool.not_eq_false', Int.not_lt, Int.not_le, ne_eq, Bool.and_eq_true, Bool.or_eq_true, Bool.or_eq_false_iff, Bool.and_eq_false_iff] at hg1 <;> simp only [go_sem, Nat.reduceAdd, Nat.reduceSub, Nat.reduceMul, Nat.reduceEqDiff, Nat.reduceLT, Nat.reduceLeDiff, Nat.reduceBEq, reduceIte, reduceCtorEq, Int.reduceToNat, Int.reduceLE, Int.reduceLT, Int.reduceBEq, Int.reduceBNe, a25, a25r0, a25r1, a25r2, a25r3, a25r4, a25r5, a25r6]
  · have hlt : i < T.length := by omega
    have hgj : (els T).getD i [] = Cel.c T[i] := els_getD hlt
    have hj0 : (0 : Int) ≤ i := by omega
    have hj1 : (i : Int) < T.length := by omega
    rw [List.drop_eq_getElem_cons hlt] at hd
    simp only [namedL] at hd
    simp only [go_sem, Nat.reduceAdd, Nat.reduceSub, Nat.reduceMul, Nat.reduceEqDiff, Nat.reduceLT, Nat.reduceLeDiff, Nat.reduceBEq, reduceIte, reduceCtorEq, Int.reduceToNat, Int.reduceLE, Int.reduceLT, Int.reduceBEq, Int.reduceBNe, hj0, hj1, hgj, cel_tm]
    refine condC_intro ?_ ?_ <;> intro hg2 <;> simp only [go_sem, Nat.reduceAdd, Nat.reduceSub, Nat.reduceMul, Nat.reduceEqDiff, Nat.reduceLT, Nat.reduceLeDiff, Nat.reduceBEq, reduceIte, reduceCtorEq, Int.reduceToNat, Int.reduceLE, Int.reduceLT, Int.reduceBEq, Int.reduceBNe, a25, a25r0, a25r1, a25r2, a25r3, a25r4, a25r5, a25r6]
    · simp only [go_sem, Nat.reduceAdd, Nat.reduceSub, Nat.reduceMul, Nat.reduceEqDiff, Nat.reduceLT, Nat.reduceLeDiff, Nat.reduceBEq, reduceIte, reduceCtorEq, Int.reduceToNat, Int.reduceLE, Int.reduceLT, Int.reduceBEq, Int.reduceBNe, hj0, hj1, hgj, cel_tm]
      have h3 : sEq T[i].name b = true := hg2
      rw [if_pos h3] at hd
      exact Cl.fin rfl ⟨by rw [← hd], rfl⟩
    · have h3 : sEq T[i].name b = false := hg2
      rw [h3, if_neg (by simp)] at hd
      simp only [go_sem, Nat.reduceAdd, Nat.reduceSub, Nat.reduceMul, Nat.reduceEqDiff, Nat.reduceLT, Nat.reduceLeDiff, Nat.reduceBEq, reduceIte, reduceCtorEq, Int.reduceToNat, Int.reduceLE, Int.reduceLT, Int.reduceBEq, Int.reduceBNe, hw1]
      refine Cl.here ⟨⟨i + 1, by omega, rfl, rfl, hd⟩, ?_⟩
      simp only [go_sem, Nat.reduceAdd, Nat.reduceSub, Nat.reduceMul, Nat.reduceEqDiff, Nat.reduceLT, Nat.reduceLeDiff, Nat.reduceBEq, reduceIte, reduceCtorEq, Int.reduceToNat, Int.reduceLE, Int.reduceLT, Int.reduceBEq, Int.reduceBNe]
      omega
  · rw [List.drop_of_length_le (by omega)] at hd
    exact Cl.fin rfl ⟨by rw [← hd]; rfl, rfl⟩

theorem overtimeBands (l : List Int) (hl : TapeOk l) (n : Int) : AFn Try.prog 6 [.pure 1 (numsE .i64 l), .int .i64 n] [] (fun v _ => v = .bool true) := by
  refine afnW Try.func6 a6_ok (by simp [a6]) ?_
  simp only [go_sem, Nat.reduceAdd, Nat.reduceSub, Nat.reduceMul, Nat.reduceEqDiff, Nat.reduceLT, Nat.reduceLeDiff, Nat.reduceBEq, reduceIte, reduceCtorEq, Int.reduceToNat, Int.reduceLE, Int.reduceLT, Int.reduceBEq, Int.reduceBNe, a6, a6r0, a6r1, a6r2, a6r3, a6r4, a6r5, a6r6, a6r7, a6r8, a6r9, a6r10, a6r11, a6r12, a6r13, a6r14, a6r15, a6r16, a6r17, a6r18, a6r19, a6r20, a6r21, a6r22, a6r23, a6r24, a6r25, a6r26]
  repeat (refine Cl.here ?_; simp only [go_sem, Nat.reduceAdd, Nat.reduceSub, Nat.reduceMul, Nat.reduceEqDiff, Nat.reduceLT, Nat.reduceLeDiff, Nat.reduceBEq, reduceIte, reduceCtorEq, Int.reduceToNat, Int.reduceLE, Int.reduceLT, Int.reduceBEq, Int.reduceBNe])
  (refine callC_of [] [] (by simp) rfl (bindL_clean _ (by first | rfl | simp only [go_sem, Nat.reduceAdd, Nat.reduceSub, Nat.reduceMul, Nat.reduceEqDiff, Nat.reduceLT, Nat.reduceLeDiff, Nat.reduceBEq, reduceIte, reduceCtorEq, Int.reduceToNat, Int.reduceLE, Int.reduceLT, Int.reduceBEq, Int.reduceBNe])) (new_ok l) ?_; rintro _ _ ⟨rfl, rfl⟩; refine ⟨.inl rfl, ?_⟩; simp only [go_sem, Nat.reduceAdd, Nat.reduceSub, Nat.reduceMul, Nat.reduceEqDiff, Nat.reduceLT, Nat.reduceLeDiff, Nat.reduceBEq, reduceIte, reduceCtorEq, Int.reduceToNat, Int.reduceLE, Int.reduceLT, Int.reduceBEq, Int.reduceBNe])
  repeat (refine Cl.here ?_; simp only [go_sem, Nat.reduceAdd, Nat.reduceSub, Nat.reduceMul, Nat.reduceEqDiff, Nat.reduceLT, Nat.reduceLeDiff, Nat.reduceBEq, reduceIte, reduceCtorEq, Int.reduceToNat, Int.reduceLE, Int.reduceLT, Int.reduceBEq, Int.reduceBNe])
  (refine callC_of [0] [] (by decide) (by simp only [go_sem, Nat.reduceAdd, Nat.reduceSub, Nat.reduceMul, Nat.reduceEqDiff, Nat.reduceLT, Nat.reduceLeDiff, Nat.reduceBEq, reduceIte, reduceCtorEq, Int.reduceToNat, Int.reduceLE, Int.reduceLT, Int.reduceBEq, Int.reduceBNe] <;> rfl) (by simp only [go_sem, Nat.reduceAdd, Nat.reduceSub, Nat.reduceMul, Nat.reduceEqDiff, Nat.reduceLT, Nat.reduceLeDiff, Nat.reduceBEq, reduceIte, reduceCtorEq, Int.reduceToNat, Int.reduceLE, Int.reduceLT, Int.reduceBEq, Int.reduceBNe] <;> rfl) (works_ok l hl 5 (by omega) (by omega) 0 (by omega) (by omega)) ?_; rintro _ _ ⟨at_, ws, rfl, rfl, h0, h1, hn, hg, hdj⟩; refine ⟨.inl rfl, ?_⟩; simp only [go_sem, Nat.reduceAdd, Nat.reduceSub, Nat.reduceMul, Nat.reduceEqDiff, Nat.reduceLT, Nat.reduceLeDiff, Nat.reduceBEq, reduceIte, reduceCtorEq, Int.reduceToNat, Int.reduceLE, Int.reduceLT, Int.reduceBEq, Int.reduceBNe])
  unfold tp
  simp only [go_sem, Nat.reduceAdd, Nat.reduceSub, Nat.reduceMul, Nat.reduceEqDiff, Nat.reduceLT, Nat.reduceLeDiff, Nat.reduceBEq, reduceIte, reduceCtorEq, Int.reduceToNat, Int.reduceLE, Int.reduceLT, Int.reduceBEq, Int.reduceBNe]
  have hlen : ws.length ≤ 5 := by omega
  (refine Cl.frz [] [ 1] rfl rfl (by simp only [go_sem, Nat.reduceAdd, Nat.reduceSub, Nat.reduceMul, Nat.reduceEqDiff, Nat.reduceLT, Nat.reduceLeDiff, Nat.reduceBEq, reduceIte, reduceCtorEq, Int.reduceToNat, Int.reduceLE, Int.reduceLT, Int.reduceBEq, Int.reduceBNe] <;> rfl) ?_; simp only [go_sem, Nat.reduceAdd, Nat.reduceSub, Nat.reduceMul, Nat.reduceEqDiff, Nat.reduceLT, Nat.reduceLeDiff, Nat.reduceBEq, reduceIte, reduceCtorEq, Int.reduceToNat, Int.reduceLE, Int.reduceLT, Int.reduceBEq, Int.reduceBNe])
  have hv := mk_sp (by omega) hg hdj
  repeat (refine Cl.here ?_; simp only [go_sem, Nat.reduceAdd, Nat.reduceSub, Nat.reduceMul, Nat.reduceEqDiff, Nat.reduceLT, Nat.reduceLeDiff, Nat.reduceBEq, reduceIte, reduceCtorEq, Int.reduceToNat, Int.reduceLE, Int.reduceLT, Int.reduceBEq, Int.reduceBNe])
  refine callC_det (mod_ok n 700 (by omega) (by omega)) rfl rfl ?_
  have ha : 0 ≤ mod n 700 ∧ mod n 700 < 700 := mod_bounds (by omega)
  generalize mod n 700 = a at ha
  obtain ⟨ha0, ha1⟩ := ha
  have hwk := (spE_zero hv).2.2.1
  have hsum := (spE_zero hv).2.2.2.2
  have hfl := flatS_len2 hg
  simp only [go_sem, Nat.reduceAdd, Nat.reduceSub, Nat.reduceMul, Nat.reduceEqDiff, Nat.reduceLT, Nat.reduceLeDiff, Nat.reduceBEq, reduceIte, reduceCtorEq, Int.reduceToNat, Int.reduceLE, Int.reduceLT, Int.reduceBEq, Int.reduceBNe]
  repeat (refine Cl.here ?_; simp only [go_sem, Nat.reduceAdd, Nat.reduceSub, Nat.reduceMul, Nat.reduceEqDiff, Nat.reduceLT, Nat.reduceLeDiff, Nat.reduceBEq, reduceIte, reduceCtorEq, Int.reduceToNat, Int.reduceLE, Int.reduceLT, Int.reduceBEq, Int.reduceBNe])
  refine callC_of [] [0] (by decide) rfl (by simp only [go_sem, Nat.reduceAdd, Nat.reduceSub, Nat.reduceMul, Nat.reduceEqDiff, Nat.reduceLT, Nat.reduceLeDiff, Nat.reduceBEq, reduceIte, reduceCtorEq, Int.reduceToNat, Int.reduceLE, Int.reduceLT, Int.reduceBEq, Int.reduceBNe] <;> rfl) ((divide_ok (rDay a) ws (by omega)).le (by simp [leL, le, Rl.v, rDay, els, nmN, nmM] <;> rfl)) ?_
  rintro _ _ hq
  unfold divQ at hq
  rcases hq with ⟨hq, _⟩ | ⟨_, hq, _⟩ | ⟨_, _, S1, hpm1, hasc1, rfl, rfl⟩
  · exact absurd (rDay_ok ha0 (by omega)) hq
  · exact absurd hv hq
  have hms1 : ((mins S1).length : Int) = sumS (flatS ws) := by rw [mins_length (fun s hs => (flat_iv hwk s (hpm1.mem_iff.1 hs)).1), sumS_perm hpm1]
  have hvS1 : ∀ s ∈ S1, ivP s.fr s.to := fun s hs => (flat_iv hwk s (hpm1.mem_iff.1 hs)).1
  have hn1 : ∀ d, lenQ (fun x => decide (x = d)) nmN (run (rDay a) (mins S1)).ps = min (sumQ (fun x => decide (x = d)) ws) a ∧ lenQ (fun x => decide (x = d)) nmM (run (rDay a) (mins S1)).ps = max (sumQ (fun x => decide (x = d)) ws - a) 0 := by
    intro d
    have := run_one (oneDay a d) ha0 nm_ne (mins S1)
    rw [cntQ_perm (mins_perm hpm1), cntQ_sumQ hwk] at this
    exact this.2
  have hl1 : (run (rDay a) (mins S1)).ps.length ≤ 20 := by
    have := run_len (oneDay a) (by simp) S1
    have := hpm1.length_eq
    omega
  have hi1 := run_iv (R := rDay a) hvS1 hasc1
  generalize (run (rDay a) (mins S1)).ps = p1 at hn1 hl1 hi1 ⊢
  refine ⟨.inr ⟨rfl, by simp only [go_sem, Nat.reduceAdd, Nat.reduceSub, Nat.reduceMul, Nat.reduceEqDiff, Nat.reduceLT, Nat.reduceLeDiff, Nat.reduceBEq, reduceIte, reduceCtorEq, Int.reduceToNat, Int.reduceLE, Int.reduceLT, Int.reduceBEq, Int.reduceBNe]⟩, ?_⟩
  simp only [go_sem, Nat.reduceAdd, Nat.reduceSub, Nat.reduceMul, Nat.reduceEqDiff, Nat.reduceLT, Nat.reduceLeDiff, Nat.reduceBEq, reduceIte, reduceCtorEq, Int.reduceToNat, Int.reduceLE, Int.reduceLT, Int.reduceBEq, Int.reduceBNe]
  (refine Cl.frz [] [ 1] rfl rfl (by simp only [go_sem, Nat.reduceAdd, Nat.reduceSub, Nat.reduceMul, Nat.reduceEqDiff, Nat.reduceLT, Nat.reduceLeDiff, Nat.reduceBEq, reduceIte, reduceCtorEq, Int.reduceToNat, Int.reduceLE, Int.reduceLT, Int.reduceBEq, Int.reduceBNe] <;> rfl) ?_; simp only [go_sem, Nat.reduceAdd, Nat.reduceSub, Nat.reduceMul, Nat.reduceEqDiff, Nat.reduceLT, Nat.reduceLeDiff, Nat.reduceBEq, reduceIte, reduceCtorEq, Int.reduceToNat, Int.reduceLE, Int.reduceLT, Int.reduceBEq, Int.reduceBNe])
  repeat (refine Cl.here ?_; simp only [go_sem, Nat.reduceAdd, Nat.reduceSub, Nat.reduceMul, Nat.reduceEqDiff, Nat.reduceLT, Nat.reduceLeDiff, Nat.reduceBEq, reduceIte, reduceCtorEq, Int.reduceToNat, Int.reduceLE, Int.reduceLT, Int.reduceBEq, Int.reduceBNe])
  refine callC_of [] [0] (by decide) rfl (by simp only [go_sem, Nat.reduceAdd, Nat.reduceSub, Nat.reduceMul, Nat.reduceEqDiff, Nat.reduceLT, Nat.reduceLeDiff, Nat.reduceBEq, reduceIte, reduceCtorEq, Int.reduceToNat, Int.reduceLE, Int.reduceLT, Int.reduceBEq, Int.reduceBNe] <;> rfl) ((divide_ok (rWeek a) ws (by omega)).le (by simp [leL, le, Rl.v, rWeek, els, nmN, nmM] <;> rfl)) ?_
  rintro _ _ hq
  unfold divQ at hq
  rcases hq with ⟨hq, _⟩ | ⟨_, hq, _⟩ | ⟨_, _, S2, hpm2, hasc2, rfl, rfl⟩
  · exact absurd (rWeek_ok ha0 (by omega)) hq
  · exact absurd hv hq
  have hvS2 : ∀ s ∈ S2, ivP s.fr s.to := fun s hs => (flat_iv hwk s (hpm2.mem_iff.1 hs)).1
  have hms2 : ((mins S2).length : Int) = sumS (flatS ws) := by rw [mins_length hvS2, sumS_perm hpm2]
  have hn2 : ∀ d, lenQ (fun x => decide (mon x = mon d)) nmN (run (rWeek a) (mins S2)).ps = min (sumQ (fun x => decide (mon x = mon d)) ws) a := by
    intro d
    have := run_one (oneWeek a d) ha0 nm_ne (mins S2)
    rw [cntQ_perm (mins_perm hpm2), cntQ_sumQ hwk] at this
    exact this.2.1
  have hl2 : (run (rWeek a) (mins S2)).ps.length ≤ 20 := by
    have := run_len (oneWeek a) (by simp) S2
    have := hpm2.length_eq
    omega
  have hi2 := run_iv (R := rWeek a) hvS2 hasc2
  have hp2 : lenP (run (rWeek a) (mins S2)).ps ≤ 100000 := by
    rw [(run_good (rWeek a) (mins S2) (incr_mins hvS2 hasc2)).sum]
    omega
  generalize (run (rWeek a) (mins S2)).ps = p2 at hn2 hl2 hi2 hp2 ⊢
  refine ⟨.inr ⟨rfl, by simp only [go_sem, Nat.reduceAdd, Nat.reduceSub, Nat.reduceMul, Nat.reduceEqDiff, Nat.reduceLT, Nat.reduceLeDiff, Nat.reduceBEq, reduceIte, reduceCtorEq, Int.reduceToNat, Int.reduceLE, Int.reduceLT, Int.reduceBEq, Int.reduceBNe]⟩, ?_⟩
  simp only [go_sem, Nat.reduceAdd, Nat.reduceSub, Nat.reduceMul, Nat.reduceEqDiff, Nat.reduceLT, Nat.reduceLeDiff, Nat.reduceBEq, reduceIte, reduceCtorEq, Int.reduceToNat, Int.reduceLE, Int.reduceLT, Int.reduceBEq, Int.reduceBNe]
  (refine Cl.frz [] [ 1] rfl rfl (by simp only [go_sem, Nat.reduceAdd, Nat.reduceSub, Nat.reduceMul, Nat.reduceEqDiff, Nat.reduceLT, Nat.reduceLeDiff, Nat.reduceBEq, reduceIte, reduceCtorEq, Int.reduceToNat, Int.reduceLE, Int.reduceLT, Int.reduceBEq, Int.reduceBNe] <;> rfl) ?_; simp only [go_sem, Nat.reduceAdd, Nat.reduceSub, Nat.reduceMul, Nat.reduceEqDiff, Nat.reduceLT, Nat.reduceLeDiff, Nat.reduceBEq, reduceIte, reduceCtorEq, Int.reduceToNat, Int.reduceLE, Int.reduceLT, Int.reduceBEq, Int.reduceBNe])
  repeat (refine Cl.here ?_; simp only [go_sem, Nat.reduceAdd, Nat.reduceSub, Nat.reduceMul, Nat.reduceEqDiff, Nat.reduceLT, Nat.reduceLeDiff, Nat.reduceBEq, reduceIte, reduceCtorEq, Int.reduceToNat, Int.reduceLE, Int.reduceLT, Int.reduceBEq, Int.reduceBNe])
  refine avcW_loop (fun env rows => ∃ i : Nat, i ≤ ws.length ∧ env = [(6, .pure 2 (els ws)), (7, .int .i64 a), (8, .pure 4 (els p1)), (10, .pure 4 (els p2)), (12, .int .i64 i)] ∧ rows = [])
    (fun env _ => match slot env 12 with | .int _ j => (ws.length - j).toNat | _ => 0) ?_ ?_
  · exact Cl.here ⟨0, by omega, rfl, rfl⟩
  rintro env rows ⟨i, hi, rfl, rfl⟩
  have hw1 : IntKind.i64.wrap ((i : Int) + 1) = ((i + 1 : Nat) : Int) := by rw [wrap_i64 (by omega) (by omega)]; omega
  simp only [go_sem, Nat.reduceAdd, Nat.reduceSub, Nat.reduceMul, Nat.reduceEqDiff, Nat.reduceLT, Nat.reduceLeDiff, Nat.reduceBEq, reduceIte, reduceCtorEq, Int.reduceToNat, Int.reduceLE, Int.reduceLT, Int.reduceBEq, Int.reduceBNe, a6, a6r0, a6r1, a6r2, a6r3, a6r4, a6r5, a6r6, a6r7, a6r8, a6r9, a6r10, a6r11, a6r12, a6r13, a6r14, a6r15, a6r16, a6r17, a6r18, a6r19, a6r20, a6r21, a6r22, a6r23, a6r24, a6r25, a6r26]
  repeat (refine Cl.here ?_; simp only [go_sem, Nat.reduceAdd, Nat.reduceSub, Nat.reduceMul, Nat.reduceEqDiff, Nat.reduceLT, Nat.reduceLeDiff, Nat.reduceBEq, reduceIte, reduceCtorEq, Int.reduceToNat, Int.reduceLE, Int.reduceLT, Int.reduceBEq, Int.reduceBNe])
  refine condW_intro ?_ ?_ <;> intro hg1 <;> simp only [decide_eq_true_eq, decide_eq_false_iff_not, beq_iff_eq, beq_eq_false_iff_ne, bne_iff_ne, bne_eq_false_iff_eq, Bool.not_eq_true', Bool.not_eq_false', Int.not_lt, Int.not_le, ne_eq, Bool.and_eq_true, Bool.or_eq_true, Bool.or_eq_false_iff, Bool.and_eq_false_iff] at hg1 <;> simp only [go_sem, Nat.reduceAdd, Nat.reduceSub, Nat.reduceMul, Nat.reduceEqDiff, Nat.reduceLT, Nat.reduceLeDiff, Nat.reduceBEq, reduceIte, reduceCtorEq, Int.reduceToNat, Int.reduceLE, Int.reduceLT, Int.reduceBEq, Int.reduceBNe, a6, a6r0, a6r1, a6r2, a6r3, a6r4, a6r5, a6r6, a6r7, a6r8, a6r9, a6r10, a6r11, a6r12, a6r13, a6r14, a6r15, a6r16, a6r17, a6r18, a6r19, a6r20, a6r21, a6r22, a6r23, a6r24, a6r25, a6r26]
  rotate_left
  · repeat (refine Cl.here ?_; simp only [go_sem, Nat.reduceAdd, Nat.reduceSub, Nat.reduceMul, Nat.reduceEqDiff, Nat.reduceLT, Nat.reduceLeDiff, Nat.reduceBEq, reduceIte, reduceCtorEq, Int.reduceToNat, Int.reduceLE, Int.reduceLT, Int.reduceBEq, Int.reduceBNe])
    refine callC_det sane_ok rfl rfl ?_
    try simp only [go_sem, Nat.reduceAdd, Nat.reduceSub, Nat.reduceMul, Nat.reduceEqDiff, Nat.reduceLT, Nat.reduceLeDiff, Nat.reduceBEq, reduceIte, reduceCtorEq, Int.reduceToNat, Int.reduceLE, Int.reduceLT, Int.reduceBEq, Int.reduceBNe]
    repeat (refine Cl.here ?_; simp only [go_sem, Nat.reduceAdd, Nat.reduceSub, Nat.reduceMul, Nat.reduceEqDiff, Nat.reduceLT, Nat.reduceLeDiff, Nat.reduceBEq, reduceIte, reduceCtorEq, Int.reduceToNat, Int.reduceLE, Int.reduceLT, Int.reduceBEq, Int.reduceBNe])
    exact Cl.fin rfl rfl
  have hlt : i < ws.length := by omega
  have hgj : (els ws).getD i [] = Cel.c ws[i] := els_getD hlt
  have hj0 : (0 : Int) ≤ i := by omega
  have hj1 : (i : Int) < ws.length := by omega
  have hgw := hg _ (List.getElem_mem hlt)
  have hd0 : 0 ≤ ws[i].day := by have := hgw.2.2.1; omega
  have hd1 : ws[i].day ≤ 1000000 := by have := hgw.2.2.2.1; omega
  (refine Cl.here ?_; simp only [go_sem, Nat.reduceAdd, Nat.reduceSub, Nat.reduceMul, Nat.reduceEqDiff, Nat.reduceLT, Nat.reduceLeDiff, Nat.reduceBEq, reduceIte, reduceCtorEq, Int.reduceToNat, Int.reduceLE, Int.reduceLT, Int.reduceBEq, Int.reduceBNe])
  simp only [go_sem, Nat.reduceAdd, Nat.reduceSub, Nat.reduceMul, Nat.reduceEqDiff, Nat.reduceLT, Nat.reduceLeDiff, Nat.reduceBEq, reduceIte, reduceCtorEq, Int.reduceToNat, Int.reduceLE, Int.reduceLT, Int.reduceBEq, Int.reduceBNe, hj0, hj1, hgj, cel_wk]
  generalize ws[i].day = d at hd0 hd1 ⊢
  clear hgj hgw
  repeat (refine Cl.here ?_; simp only [go_sem, Nat.reduceAdd, Nat.reduceSub, Nat.reduceMul, Nat.reduceEqDiff, Nat.reduceLT, Nat.reduceLeDiff, Nat.reduceBEq, reduceIte, reduceCtorEq, Int.reduceToNat, Int.reduceLE, Int.reduceLT, Int.reduceBEq, Int.reduceBNe])
  refine avcW_loop (fun env rows => ∃ j : Nat, j ≤ ws.length ∧ env = [(6, .pure 2 (els ws)), (7, .int .i64 a), (8, .pure 4 (els p1)), (10, .pure 4 (els p2)), (12, .int .i64 i), (13, .int .i64 d), (14, .int .i64 (sumQ (fun x => decide (x = d)) (ws.take j))), (15, .int .i64 (sumQ (fun x => decide (mon x = mon d)) (ws.take j))), (16, .int .i64 j)] ∧ rows = [])
    (fun env _ => match slot env 16 with | .int _ j => (ws.length - j).toNat | _ => 0) ?_ ?_
  · exact Cl.here ⟨0, by omega, rfl, rfl⟩
  rintro env rows ⟨j, hj, rfl, rfl⟩
  have hwj : IntKind.i64.wrap ((j : Int) + 1) = ((j + 1 : Nat) : Int) := by rw [wrap_i64 (by omega) (by omega)]; omega
  simp only [go_sem, Nat.reduceAdd, Nat.reduceSub, Nat.reduceMul, Nat.reduceEqDiff, Nat.reduceLT, Nat.reduceLeDiff, Nat.reduceBEq, reduceIte, reduceCtorEq, Int.reduceToNat, Int.reduceLE, Int.reduceLT, Int.reduceBEq, Int.reduceBNe, a6, a6r0, a6r1, a6r2, a6r3, a6r4, a6r5, a6r6, a6r7, a6r8, a6r9, a6r10, a6r11, a6r12, a6r13, a6r14, a6r15, a6r16, a6r17, a6r18, a6r19, a6r20, a6r21, a6r22, a6r23, a6r24, a6r25, a6r26]
  repeat (refine Cl.here ?_; simp only [go_sem, Nat.reduceAdd, Nat.reduceSub, Nat.reduceMul, Nat.reduceEqDiff, Nat.reduceLT, Nat.reduceLeDiff, Nat.reduceBEq, reduceIte, reduceCtorEq, Int.reduceToNat, Int.reduceLE, Int.reduceLT, Int.reduceBEq, Int.reduceBNe])
  refine condW_intro ?_ ?_ <;> intro hg2 <;> simp only [decide_eq_true_eq, decide_eq_false_iff_not, beq_iff_eq, beq_eq_false_iff_ne, bne_iff_ne, bne_eq_false_iff_eq, Bool.not_eq_true', Bool.not_eq_false', Int.not_lt, Int.not_le, ne_eq, Bool.and_eq_true, Bool.or_eq_true, Bool.or_eq_false_iff, Bool.and_eq_false_iff] at hg2 <;> simp only [go_sem, Nat.reduceAdd, Nat.reduceSub, Nat.reduceMul, Nat.reduceEqDiff, Nat.reduceLT, Nat.reduceLeDiff, Nat.reduceBEq, reduceIte, reduceCtorEq, Int.reduceToNat, Int.reduceLE, Int.reduceLT, Int.reduceBEq, Int.reduceBNe, a6, a6r0, a6r1, a6r2, a6r3, a6r4, a6r5, a6r6, a6r7, a6r8, a6r9, a6r10, a6r11, a6r12, a6r13, a6r14, a6r15, a6r16, a6r17, a6r18, a6r19, a6r20, a6r21, a6r22, a6r23, a6r24, a6r25, a6r26]
  · have hltj : j < ws.length := by omega
    have hgj : (els ws).getD j [] = Cel.c ws[j] := els_getD hltj
    have hk0 : (0 : Int) ≤ j := by omega
    have hk1 : (j : Int) < ws.length := by omega
    have hgw := hg _ (List.getElem_mem hltj)
    have e0 : 0 ≤ ws[j].day := by have := hgw.2.2.1; omega
    have e1 : ws[j].day ≤ 1000000 := by have := hgw.2.2.2.1; omega
    have hz := hgw.2.1
    have s1 := sumQ_take (Q := fun x => decide (x = d)) hltj
    have s2 := sumQ_take (Q := fun x => decide (mon x = mon d)) hltj
    have b1 := sumQ_bd (Q := fun x => decide (x = d)) (ws := ws.take j) fun w hw => hg w (List.mem_of_mem_take hw)
    have b2 := sumQ_bd (Q := fun x => decide (mon x = mon d)) (ws := ws.take j) fun w hw => hg w (List.mem_of_mem_take hw)
    have b3 := mnI_bd ws[j].iv
    have b4 : (ws.take j).length ≤ 5 := by rw [List.length_take]; omega
    generalize ws[j] = w at *
    (refine Cl.here ?_; simp only [go_sem, Nat.reduceAdd, Nat.reduceSub, Nat.reduceMul, Nat.reduceEqDiff, Nat.reduceLT, Nat.reduceLeDiff, Nat.reduceBEq, reduceIte, reduceCtorEq, Int.reduceToNat, Int.reduceLE, Int.reduceLT, Int.reduceBEq, Int.reduceBNe])
    simp only [go_sem, Nat.reduceAdd, Nat.reduceSub, Nat.reduceMul, Nat.reduceEqDiff, Nat.reduceLT, Nat.reduceLeDiff, Nat.reduceBEq, reduceIte, reduceCtorEq, Int.reduceToNat, Int.reduceLE, Int.reduceLT, Int.reduceBEq, Int.reduceBNe, hk0, hk1, hgj, cel_wk]
    (refine Cl.here ?_; simp only [go_sem, Nat.reduceAdd, Nat.reduceSub, Nat.reduceMul, Nat.reduceEqDiff, Nat.reduceLT, Nat.reduceLeDiff, Nat.reduceBEq, reduceIte, reduceCtorEq, Int.reduceToNat, Int.reduceLE, Int.reduceLT, Int.reduceBEq, Int.reduceBNe])
    by_cases c2 : mon w.day = mon d
    · by_cases c1 : w.day = d
      · have f1 : (w.day == d) = true := beq_iff_eq.2 c1
        have f2 : (mon w.day == mon d) = true := beq_iff_eq.2 c2
        have g1 : decide (w.day = d) = true := decide_eq_true c1
        have g2 : decide (mon w.day = mon d) = true := decide_eq_true c2
        simp only [g1, if_true, Bool.false_eq_true, if_false, Int.add_zero] at s1
        simp only [g2, if_true, Bool.false_eq_true, if_false, Int.add_zero] at s2
        simp only [go_sem, Nat.reduceAdd, Nat.reduceSub, Nat.reduceMul, Nat.reduceEqDiff, Nat.reduceLT, Nat.reduceLeDiff, Nat.reduceBEq, reduceIte, reduceCtorEq, Int.reduceToNat, Int.reduceLE, Int.reduceLT, Int.reduceBEq, Int.reduceBNe, f1]
        repeat (refine Cl.here ?_; simp only [go_sem, Nat.reduceAdd, Nat.reduceSub, Nat.reduceMul, Nat.reduceEqDiff, Nat.reduceLT, Nat.reduceLeDiff, Nat.reduceBEq, reduceIte, reduceCtorEq, Int.reduceToNat, Int.reduceLE, Int.reduceLT, Int.reduceBEq, Int.reduceBNe])
        simp only [go_sem, Nat.reduceAdd, Nat.reduceSub, Nat.reduceMul, Nat.reduceEqDiff, Nat.reduceLT, Nat.reduceLeDiff, Nat.reduceBEq, reduceIte, reduceCtorEq, Int.reduceToNat, Int.reduceLE, Int.reduceLT, Int.reduceBEq, Int.reduceBNe, hk0, hk1, hgj, cel_wk]
        refine callC_det (minutes_ok w.iv (by omega)) rfl rfl ?_
        simp only [go_sem, Nat.reduceAdd, Nat.reduceSub, Nat.reduceMul, Nat.reduceEqDiff, Nat.reduceLT, Nat.reduceLeDiff, Nat.reduceBEq, reduceIte, reduceCtorEq, Int.reduceToNat, Int.reduceLE, Int.reduceLT, Int.reduceBEq, Int.reduceBNe]
        rw [wrap_i64 (by omega) (by omega), ← s1]
        repeat (refine Cl.here ?_; simp only [go_sem, Nat.reduceAdd, Nat.reduceSub, Nat.reduceMul, Nat.reduceEqDiff, Nat.reduceLT, Nat.reduceLeDiff, Nat.reduceBEq, reduceIte, reduceCtorEq, Int.reduceToNat, Int.reduceLE, Int.reduceLT, Int.reduceBEq, Int.reduceBNe])
        simp only [go_sem, Nat.reduceAdd, Nat.reduceSub, Nat.reduceMul, Nat.reduceEqDiff, Nat.reduceLT, Nat.reduceLeDiff, Nat.reduceBEq, reduceIte, reduceCtorEq, Int.reduceToNat, Int.reduceLE, Int.reduceLT, Int.reduceBEq, Int.reduceBNe, hk0, hk1, hgj, cel_wk]
        refine callC_det (monday_ok w.day e0 e1) rfl rfl ?_
        simp only [go_sem, Nat.reduceAdd, Nat.reduceSub, Nat.reduceMul, Nat.reduceEqDiff, Nat.reduceLT, Nat.reduceLeDiff, Nat.reduceBEq, reduceIte, reduceCtorEq, Int.reduceToNat, Int.reduceLE, Int.reduceLT, Int.reduceBEq, Int.reduceBNe]
        refine callC_det (monday_ok d hd0 hd1) rfl rfl ?_
        simp only [go_sem, Nat.reduceAdd, Nat.reduceSub, Nat.reduceMul, Nat.reduceEqDiff, Nat.reduceLT, Nat.reduceLeDiff, Nat.reduceBEq, reduceIte, reduceCtorEq, Int.reduceToNat, Int.reduceLE, Int.reduceLT, Int.reduceBEq, Int.reduceBNe, f2]
        repeat (refine Cl.here ?_; simp only [go_sem, Nat.reduceAdd, Nat.reduceSub, Nat.reduceMul, Nat.reduceEqDiff, Nat.reduceLT, Nat.reduceLeDiff, Nat.reduceBEq, reduceIte, reduceCtorEq, Int.reduceToNat, Int.reduceLE, Int.reduceLT, Int.reduceBEq, Int.reduceBNe])
        simp only [go_sem, Nat.reduceAdd, Nat.reduceSub, Nat.reduceMul, Nat.reduceEqDiff, Nat.reduceLT, Nat.reduceLeDiff, Nat.reduceBEq, reduceIte, reduceCtorEq, Int.reduceToNat, Int.reduceLE, Int.reduceLT, Int.reduceBEq, Int.reduceBNe, hk0, hk1, hgj, cel_wk]
        refine callC_det (minutes_ok w.iv (by omega)) rfl rfl ?_
        simp only [go_sem, Nat.reduceAdd, Nat.reduceSub, Nat.reduceMul, Nat.reduceEqDiff, Nat.reduceLT, Nat.reduceLeDiff, Nat.reduceBEq, reduceIte, reduceCtorEq, Int.reduceToNat, Int.reduceLE, Int.reduceLT, Int.reduceBEq, Int.reduceBNe]
        rw [wrap_i64 (by omega) (by omega), ← s2]
        repeat (refine Cl.here ?_; simp only [go_sem, Nat.reduceAdd, Nat.reduceSub, Nat.reduceMul, Nat.reduceEqDiff, Nat.reduceLT, Nat.reduceLeDiff, Nat.reduceBEq, reduceIte, reduceCtorEq, Int.reduceToNat, Int.reduceLE, Int.reduceLT, Int.reduceBEq, Int.reduceBNe])
        simp only [go_sem, Nat.reduceAdd, Nat.reduceSub, Nat.reduceMul, Nat.reduceEqDiff, Nat.reduceLT, Nat.reduceLeDiff, Nat.reduceBEq, reduceIte, reduceCtorEq, Int.reduceToNat, Int.reduceLE, Int.reduceLT, Int.reduceBEq, Int.reduceBNe, hwj]
        exact ⟨⟨j + 1, by omega, rfl⟩, by omega⟩
      · have f1 : (w.day == d) = false := beq_eq_false_iff_ne.2 c1
        have f2 : (mon w.day == mon d) = true := beq_iff_eq.2 c2
        have g1 : decide (w.day = d) = false := decide_eq_false c1
        have g2 : decide (mon w.day = mon d) = true := decide_eq_true c2
        simp only [g1, if_true, Bool.false_eq_true, if_false, Int.add_zero] at s1
        simp only [g2, if_true, Bool.false_eq_true, if_false, Int.add_zero] at s2
        simp only [go_sem, Nat.reduceAdd, Nat.reduceSub, Nat.reduceMul, Nat.reduceEqDiff, Nat.reduceLT, Nat.reduceLeDiff, Nat.reduceBEq, reduceIte, reduceCtorEq, Int.reduceToNat, Int.reduceLE, Int.reduceLT, Int.reduceBEq, Int.reduceBNe, f1]
        repeat (refine Cl.here ?_; simp only [go_sem, Nat.reduceAdd, Nat.reduceSub, Nat.reduceMul, Nat.reduceEqDiff, Nat.reduceLT, Nat.reduceLeDiff, Nat.reduceBEq, reduceIte, reduceCtorEq, Int.reduceToNat, Int.reduceLE, Int.reduceLT, Int.reduceBEq, Int.reduceBNe])
        rw [← s1]
        simp only [go_sem, Nat.reduceAdd, Nat.reduceSub, Nat.reduceMul, Nat.reduceEqDiff, Nat.reduceLT, Nat.reduceLeDiff, Nat.reduceBEq, reduceIte, reduceCtorEq, Int.reduceToNat, Int.reduceLE, Int.reduceLT, Int.reduceBEq, Int.reduceBNe, hk0, hk1, hgj, cel_wk]
        refine callC_det (monday_ok w.day e0 e1) rfl rfl ?_
        simp only [go_sem, Nat.reduceAdd, Nat.reduceSub, Nat.reduceMul, Nat.reduceEqDiff, Nat.reduceLT, Nat.reduceLeDiff, Nat.reduceBEq, reduceIte, reduceCtorEq, Int.reduceToNat, Int.reduceLE, Int.reduceLT, Int.reduceBEq, Int.reduceBNe]
        refine callC_det (monday_ok d hd0 hd1) rfl rfl ?_
        simp only [go_sem, Nat.reduceAdd, Nat.reduceSub, Nat.reduceMul, Nat.reduceEqDiff, Nat.reduceLT, Nat.reduceLeDiff, Nat.reduceBEq, reduceIte, reduceCtorEq, Int.reduceToNat, Int.reduceLE, Int.reduceLT, Int.reduceBEq, Int.reduceBNe, f2]
        repeat (refine Cl.here ?_; simp only [go_sem, Nat.reduceAdd, Nat.reduceSub, Nat.reduceMul, Nat.reduceEqDiff, Nat.reduceLT, Nat.reduceLeDiff, Nat.reduceBEq, reduceIte, reduceCtorEq, Int.reduceToNat, Int.reduceLE, Int.reduceLT, Int.reduceBEq, Int.reduceBNe])
        simp only [go_sem, Nat.reduceAdd, Nat.reduceSub, Nat.reduceMul, Nat.reduceEqDiff, Nat.reduceLT, Nat.reduceLeDiff, Nat.reduceBEq, reduceIte, reduceCtorEq, Int.reduceToNat, Int.reduceLE, Int.reduceLT, Int.reduceBEq, Int.reduceBNe, hk0, hk1, hgj, cel_wk]
        refine callC_det (minutes_ok w.iv (by omega)) rfl rfl ?_
        simp only [go_sem, Nat.reduceAdd, Nat.reduceSub, Nat.reduceMul, Nat.reduceEqDiff, Nat.reduceLT, Nat.reduceLeDiff, Nat.reduceBEq, reduceIte, reduceCtorEq, Int.reduceToNat, Int.reduceLE, Int.reduceLT, Int.reduceBEq, Int.reduceBNe]
        rw [wrap_i64 (by omega) (by omega), ← s2]
        repeat (refine Cl.here ?_; simp only [go_sem, Nat.reduceAdd, Nat.reduceSub, Nat.reduceMul, Nat.reduceEqDiff, Nat.reduceLT, Nat.reduceLeDiff, Nat.reduceBEq, reduceIte, reduceCtorEq, Int.reduceToNat, Int.reduceLE, Int.reduceLT, Int.reduceBEq, Int.reduceBNe])
        simp only [go_sem, Nat.reduceAdd, Nat.reduceSub, Nat.reduceMul, Nat.reduceEqDiff, Nat.reduceLT, Nat.reduceLeDiff, Nat.reduceBEq, reduceIte, reduceCtorEq, Int.reduceToNat, Int.reduceLE, Int.reduceLT, Int.reduceBEq, Int.reduceBNe, hwj]
        exact ⟨⟨j + 1, by omega, rfl⟩, by omega⟩
    · have c1 : ¬ w.day = d := fun h => c2 (by rw [h])
      have f1 : (w.day == d) = false := beq_eq_false_iff_ne.2 c1
      have f2 : (mon w.day == mon d) = false := beq_eq_false_iff_ne.2 c2
      have g1 : decide (w.day = d) = false := decide_eq_false c1
      have g2 : decide (mon w.day = mon d) = false := decide_eq_false c2
      simp only [g1, if_true, Bool.false_eq_true, if_false, Int.add_zero] at s1
      simp only [g2, if_true, Bool.false_eq_true, if_false, Int.add_zero] at s2
      simp only [go_sem, Nat.reduceAdd, Nat.reduceSub, Nat.reduceMul, Nat.reduceEqDiff, Nat.reduceLT, Nat.reduceLeDiff, Nat.reduceBEq, reduceIte, reduceCtorEq, Int.reduceToNat, Int.reduceLE, Int.reduceLT, Int.reduceBEq, Int.reduceBNe, f1]
      repeat (refine Cl.here ?_; simp only [go_sem, Nat.reduceAdd, Nat.reduceSub, Nat.reduceMul, Nat.reduceEqDiff, Nat.reduceLT, Nat.reduceLeDiff, Nat.reduceBEq, reduceIte, reduceCtorEq, Int.reduceToNat, Int.reduceLE, Int.reduceLT, Int.reduceBEq, Int.reduceBNe])
      rw [← s1]
      simp only [go_sem, Nat.reduceAdd, Nat.reduceSub, Nat.reduceMul, Nat.reduceEqDiff, Nat.reduceLT, Nat.reduceLeDiff, Nat.reduceBEq, reduceIte, reduceCtorEq, Int.reduceToNat, Int.reduceLE, Int.reduceLT, Int.reduceBEq, Int.reduceBNe, hk0, hk1, hgj, cel_wk]
      refine callC_det (monday_ok w.day e0 e1) rfl rfl ?_
      simp only [go_sem, Nat.reduceAdd, Nat.reduceSub, Nat.reduceMul, Nat.reduceEqDiff, Nat.reduceLT, Nat.reduceLeDiff, Nat.reduceBEq, reduceIte, reduceCtorEq, Int.reduceToNat, Int.reduceLE, Int.reduceLT, Int.reduceBEq, Int.reduceBNe]
      refine callC_det (monday_ok d hd0 hd1) rfl rfl ?_
      simp only [go_sem, Nat.reduceAdd, Nat.reduceSub, Nat.reduceMul, Nat.reduceEqDiff, Nat.reduceLT, Nat.reduceLeDiff, Nat.reduceBEq, reduceIte, reduceCtorEq, Int.reduceToNat, Int.reduceLE, Int.reduceLT, Int.reduceBEq, Int.reduceBNe, f2]
      repeat (refine Cl.here ?_; simp only [go_sem, Nat.reduceAdd, Nat.reduceSub, Nat.reduceMul, Nat.reduceEqDiff, Nat.reduceLT, Nat.reduceLeDiff, Nat.reduceBEq, reduceIte, reduceCtorEq, Int.reduceToNat, Int.reduceLE, Int.reduceLT, Int.reduceBEq, Int.reduceBNe])
      rw [← s2]
      simp only [go_sem, Nat.reduceAdd, Nat.reduceSub, Nat.reduceMul, Nat.reduceEqDiff, Nat.reduceLT, Nat.reduceLeDiff, Nat.reduceBEq, reduceIte, reduceCtorEq, Int.reduceToNat, Int.reduceLE, Int.reduceLT, Int.reduceBEq, Int.reduceBNe, hwj]
      exact ⟨⟨j + 1, by omega, rfl⟩, by omega⟩
  · have hie : ws.take j = ws := List.take_of_length_le (by omega)
    rw [hie]
    have bs1 := sumQ_bd (Q := fun x => decide (x = d)) hg
    have bs2 := sumQ_bd (Q := fun x => decide (mon x = mon d)) hg
    have n1 := hn1 d
    have n2 := hn2 d
    generalize sumQ (fun x => decide (x = d)) ws = s1 at *
    generalize sumQ (fun x => decide (mon x = mon d)) ws = s2 at *
    have hmb : 0 ≤ mon d + 3 ∧ mon d ≤ d ∧ d < mon d + 7 := by unfold mon; omega
    repeat (refine Cl.here ?_; simp only [go_sem, Nat.reduceAdd, Nat.reduceSub, Nat.reduceMul, Nat.reduceEqDiff, Nat.reduceLT, Nat.reduceLeDiff, Nat.reduceBEq, reduceIte, reduceCtorEq, Int.reduceToNat, Int.reduceLE, Int.reduceLT, Int.reduceBEq, Int.reduceBNe])
    refine callC_det (monday_ok d hd0 hd1) rfl rfl ?_
    simp only [go_sem, Nat.reduceAdd, Nat.reduceSub, Nat.reduceMul, Nat.reduceEqDiff, Nat.reduceLT, Nat.reduceLeDiff, Nat.reduceBEq, reduceIte, reduceCtorEq, Int.reduceToNat, Int.reduceLE, Int.reduceLT, Int.reduceBEq, Int.reduceBNe]
    repeat (refine Cl.here ?_; simp only [go_sem, Nat.reduceAdd, Nat.reduceSub, Nat.reduceMul, Nat.reduceEqDiff, Nat.reduceLT, Nat.reduceLeDiff, Nat.reduceBEq, reduceIte, reduceCtorEq, Int.reduceToNat, Int.reduceLE, Int.reduceLT, Int.reduceBEq, Int.reduceBNe])
    refine avcW_loop (fun env rows => ∃ k : Nat, k ≤ 7 ∧ env = [(6, .pure 2 (els ws)), (7, .int .i64 a), (8, .pure 4 (els p1)), (10, .pure 4 (els p2)), (12, .int .i64 i), (13, .int .i64 d), (14, .int .i64 s1), (15, .int .i64 s2), (17, .int .i64 (lenQ (fun x => decide (mon d ≤ x ∧ x < mon d + k)) nmN p2)), (18, .int .i64 (mon d + k))] ∧ rows = [])
      (fun env _ => match slot env 18 with | .int _ j => (mon d + 7 - j).toNat | _ => 0) ?_ ?_
    · refine Cl.here ⟨0, by omega, ?_, rfl⟩
      have z : lenQ (fun x => decide (mon d ≤ x ∧ x < mon d + ((0 : Nat) : Int))) nmN p2 = 0 := by
        have : ∀ l : List Pc, lenQ (fun x => decide (mon d ≤ x ∧ x < mon d + ((0 : Nat) : Int))) nmN l = 0 := by
          intro l
          induction l with
          | nil => rfl
          | cons p l ih =>
            have hf : decide (mon d ≤ p.day ∧ p.day < mon d + ((0 : Nat) : Int)) = false := decide_eq_false (by omega)
            simp only [lenQ, ih, hf, Bool.false_and, Bool.false_eq_true, if_false, Int.add_zero]
        exact this p2
      rw [z]
      simp
    rintro env rows ⟨k, hk, rfl, rfl⟩
    have pos2 : ∀ p ∈ p2, p.fr < p.to := fun p hp => by have := hi2 p hp; unfold ivP at this; omega
    have q1 := lenQ_bd (Q := fun x => decide (mon d ≤ x ∧ x < mon d + (k : Int))) (b := nmN) pos2
    have q2 := lenQ_bd (Q := fun x => decide (mon d ≤ x ∧ x < mon d + ((k + 1 : Nat) : Int))) (b := nmN) pos2
    have q3 : lenQ (fun x => decide (mon d ≤ x ∧ x < mon d + ((k + 1 : Nat) : Int))) nmN p2 = lenQ (fun x => decide (mon d ≤ x ∧ x < mon d + (k : Int))) nmN p2 + lenQ (fun x => decide (x = mon d + k)) nmN p2 := by
      refine lenQ_add fun x => ⟨?_, ?_⟩
      · rw [Bool.eq_iff_iff]
        simp only [decide_eq_true_eq, Bool.or_eq_true]
        omega
      · simp only [decide_eq_true_eq]
        omega
    simp only [go_sem, Nat.reduceAdd, Nat.reduceSub, Nat.reduceMul, Nat.reduceEqDiff, Nat.reduceLT, Nat.reduceLeDiff, Nat.reduceBEq, reduceIte, reduceCtorEq, Int.reduceToNat, Int.reduceLE, Int.reduceLT, Int.reduceBEq, Int.reduceBNe, a6, a6r0, a6r1, a6r2, a6r3, a6r4, a6r5, a6r6, a6r7, a6r8, a6r9, a6r10, a6r11, a6r12, a6r13, a6r14, a6r15, a6r16, a6r17, a6r18, a6r19, a6r20, a6r21, a6r22, a6r23, a6r24, a6r25, a6r26]
    repeat (refine Cl.here ?_; simp only [go_sem, Nat.reduceAdd, Nat.reduceSub, Nat.reduceMul, Nat.reduceEqDiff, Nat.reduceLT, Nat.reduceLeDiff, Nat.reduceBEq, reduceIte, reduceCtorEq, Int.reduceToNat, Int.reduceLE, Int.reduceLT, Int.reduceBEq, Int.reduceBNe])
    refine callC_det (monday_ok d hd0 hd1) rfl rfl ?_
    simp only [go_sem, Nat.reduceAdd, Nat.reduceSub, Nat.reduceMul, Nat.reduceEqDiff, Nat.reduceLT, Nat.reduceLeDiff, Nat.reduceBEq, reduceIte, reduceCtorEq, Int.reduceToNat, Int.reduceLE, Int.reduceLT, Int.reduceBEq, Int.reduceBNe]
    rw [wrap_i64 (x := mon d + 7) (by omega) (by omega)]
    repeat (refine Cl.here ?_; simp only [go_sem, Nat.reduceAdd, Nat.reduceSub, Nat.reduceMul, Nat.reduceEqDiff, Nat.reduceLT, Nat.reduceLeDiff, Nat.reduceBEq, reduceIte, reduceCtorEq, Int.reduceToNat, Int.reduceLE, Int.reduceLT, Int.reduceBEq, Int.reduceBNe])
    refine condW_intro ?_ ?_ <;> intro hg3 <;> simp only [decide_eq_true_eq, decide_eq_false_iff_not, beq_iff_eq, beq_eq_false_iff_ne, bne_iff_ne, bne_eq_false_iff_eq, Bool.not_eq_true', Bool.not_eq_false', Int.not_lt, Int.not_le, ne_eq, Bool.and_eq_true, Bool.or_eq_true, Bool.or_eq_false_iff, Bool.and_eq_false_iff] at hg3 <;> simp only [go_sem, Nat.reduceAdd, Nat.reduceSub, Nat.reduceMul, Nat.reduceEqDiff, Nat.reduceLT, Nat.reduceLeDiff, Nat.reduceBEq, reduceIte, reduceCtorEq, Int.reduceToNat, Int.reduceLE, Int.reduceLT, Int.reduceBEq, Int.reduceBNe, a6, a6r0, a6r1, a6r2, a6r3, a6r4, a6r5, a6r6, a6r7, a6r8, a6r9, a6r10, a6r11, a6r12, a6r13, a6r14, a6r15, a6r16, a6r17, a6r18, a6r19, a6r20, a6r21, a6r22, a6r23, a6r24, a6r25, a6r26]
    · repeat (refine Cl.here ?_; simp only [go_sem, Nat.reduceAdd, Nat.reduceSub, Nat.reduceMul, Nat.reduceEqDiff, Nat.reduceLT, Nat.reduceLeDiff, Nat.reduceBEq, reduceIte, reduceCtorEq, Int.reduceToNat, Int.reduceLE, Int.reduceLT, Int.reduceBEq, Int.reduceBNe])
      (refine callC_of [] [] (by simp) rfl (bindL_clean _ (by first | rfl | simp only [go_sem, Nat.reduceAdd, Nat.reduceSub, Nat.reduceMul, Nat.reduceEqDiff, Nat.reduceLT, Nat.reduceLeDiff, Nat.reduceBEq, reduceIte, reduceCtorEq, Int.reduceToNat, Int.reduceLE, Int.reduceLT, Int.reduceBEq, Int.reduceBNe])) (totals_ok p2 (by omega) (mon d + k)) ?_; rintro _ _ ⟨rfl, rfl⟩; refine ⟨.inl rfl, ?_⟩; simp only [go_sem, Nat.reduceAdd, Nat.reduceSub, Nat.reduceMul, Nat.reduceEqDiff, Nat.reduceLT, Nat.reduceLeDiff, Nat.reduceBEq, reduceIte, reduceCtorEq, Int.reduceToNat, Int.reduceLE, Int.reduceLT, Int.reduceBEq, Int.reduceBNe])
      have e5 := namedL_totals (b := nmN) (d := mon d + k) hi2 (by omega)
      have e6 : (totals p2 (mon d + k)).length ≤ 4096 := by
        unfold totals
        have := (tots_bd (p2.take 4096) (mon d + k) (p2.take 4096).length (Nat.le_refl _)).2
        rw [List.take_length] at this
        have h2 : (p2.take 4096).length ≤ 4096 := by rw [List.length_take]; omega
        omega
      generalize totals p2 (mon d + k) = T at *
      refine callC_of [] [0] (by decide) rfl (by simp only [go_sem, Nat.reduceAdd, Nat.reduceSub, Nat.reduceMul, Nat.reduceEqDiff, Nat.reduceLT, Nat.reduceLeDiff, Nat.reduceBEq, reduceIte, reduceCtorEq, Int.reduceToNat, Int.reduceLE, Int.reduceLT, Int.reduceBEq, Int.reduceBNe] <;> rfl) (named_ok nmN T (by omega)) ?_
      rintro _ _ ⟨rfl, rfl⟩
      refine ⟨.inr ⟨rfl, rfl⟩, ?_⟩
      simp only [go_sem, Nat.reduceAdd, Nat.reduceSub, Nat.reduceMul, Nat.reduceEqDiff, Nat.reduceLT, Nat.reduceLeDiff, Nat.reduceBEq, reduceIte, reduceCtorEq, Int.reduceToNat, Int.reduceLE, Int.reduceLT, Int.reduceBEq, Int.reduceBNe]
      rw [e5, wrap_i64 (by omega) (by omega), ← q3]
      (refine Cl.tr [] [] rfl rfl (by simp only [go_sem, Nat.reduceAdd, Nat.reduceSub, Nat.reduceMul, Nat.reduceEqDiff, Nat.reduceLT, Nat.reduceLeDiff, Nat.reduceBEq, reduceIte, reduceCtorEq, Int.reduceToNat, Int.reduceLE, Int.reduceLT, Int.reduceBEq, Int.reduceBNe] <;> rfl) ?_; simp only [go_sem, Nat.reduceAdd, Nat.reduceSub, Nat.reduceMul, Nat.reduceEqDiff, Nat.reduceLT, Nat.reduceLeDiff, Nat.reduceBEq, reduceIte, reduceCtorEq, Int.reduceToNat, Int.reduceLE, Int.reduceLT, Int.reduceBEq, Int.reduceBNe])
      repeat (refine Cl.here ?_; simp only [go_sem, Nat.reduceAdd, Nat.reduceSub, Nat.reduceMul, Nat.reduceEqDiff, Nat.reduceLT, Nat.reduceLeDiff, Nat.reduceBEq, reduceIte, reduceCtorEq, Int.reduceToNat, Int.reduceLE, Int.reduceLT, Int.reduceBEq, Int.reduceBNe])
      rw [wrap_i64 (by omega) (by omega)]
      exact ⟨⟨k + 1, by omega, by simp; omega⟩, by omega⟩
    · have hk7 : k = 7 := by omega
      subst hk7
      have q4 : lenQ (fun x => decide (mon d ≤ x ∧ x < mon d + ((7 : Nat) : Int))) nmN p2 = lenQ (fun x => decide (mon x = mon d)) nmN p2 := by
        refine lenQ_congr fun p hp => ?_
        rw [Bool.eq_iff_iff]
        simp only [decide_eq_true_eq]
        unfold mon
        omega
      rw [q4, n2]
      have e5 := namedL_totals (b := nmN) (d := d) hi1 (by omega)
      have e7 := namedL_totals (b := nmM) (d := d) hi1 (by omega)
      have e6 : (totals p1 d).length ≤ 4096 := by
        unfold totals
        have := (tots_bd (p1.take 4096) d (p1.take 4096).length (Nat.le_refl _)).2
        rw [List.take_length] at this
        have h2 : (p1.take 4096).length ≤ 4096 := by rw [List.length_take]; omega
        omega
      rw [n1.1] at e5
      rw [n1.2] at e7
      have hT := totals_ok p1 (by omega) d
      generalize totals p1 d = T at *
      repeat (refine Cl.here ?_; simp only [go_sem, Nat.reduceAdd, Nat.reduceSub, Nat.reduceMul, Nat.reduceEqDiff, Nat.reduceLT, Nat.reduceLeDiff, Nat.reduceBEq, reduceIte, reduceCtorEq, Int.reduceToNat, Int.reduceLE, Int.reduceLT, Int.reduceBEq, Int.reduceBNe])
      (refine callC_of [] [] (by simp) rfl (bindL_clean _ (by first | rfl | simp only [go_sem, Nat.reduceAdd, Nat.reduceSub, Nat.reduceMul, Nat.reduceEqDiff, Nat.reduceLT, Nat.reduceLeDiff, Nat.reduceBEq, reduceIte, reduceCtorEq, Int.reduceToNat, Int.reduceLE, Int.reduceLT, Int.reduceBEq, Int.reduceBNe])) (hT) ?_; rintro _ _ ⟨rfl, rfl⟩; refine ⟨.inl rfl, ?_⟩; simp only [go_sem, Nat.reduceAdd, Nat.reduceSub, Nat.reduceMul, Nat.reduceEqDiff, Nat.reduceLT, Nat.reduceLeDiff, Nat.reduceBEq, reduceIte, reduceCtorEq, Int.reduceToNat, Int.reduceLE, Int.reduceLT, Int.reduceBEq, Int.reduceBNe])
      refine callC_of [] [0] (by decide) rfl (by simp only [go_sem, Nat.reduceAdd, Nat.reduceSub, Nat.reduceMul, Nat.reduceEqDiff, Nat.reduceLT, Nat.reduceLeDiff, Nat.reduceBEq, reduceIte, reduceCtorEq, Int.reduceToNat, Int.reduceLE, Int.reduceLT, Int.reduceBEq, Int.reduceBNe] <;> rfl) (named_ok nmN T (by omega)) ?_
      rintro _ _ ⟨rfl, rfl⟩
      refine ⟨.inr ⟨rfl, rfl⟩, ?_⟩
      rw [e5]
      simp only [go_sem, Nat.reduceAdd, Nat.reduceSub, Nat.reduceMul, Nat.reduceEqDiff, Nat.reduceLT, Nat.reduceLeDiff, Nat.reduceBEq, reduceIte, reduceCtorEq, Int.reduceToNat, Int.reduceLE, Int.reduceLT, Int.reduceBEq, Int.reduceBNe, bne_self_eq_false]
      (refine callC_of [] [] (by simp) rfl (bindL_clean _ (by first | rfl | simp only [go_sem, Nat.reduceAdd, Nat.reduceSub, Nat.reduceMul, Nat.reduceEqDiff, Nat.reduceLT, Nat.reduceLeDiff, Nat.reduceBEq, reduceIte, reduceCtorEq, Int.reduceToNat, Int.reduceLE, Int.reduceLT, Int.reduceBEq, Int.reduceBNe])) (hT) ?_; rintro _ _ ⟨rfl, rfl⟩; refine ⟨.inl rfl, ?_⟩; simp only [go_sem, Nat.reduceAdd, Nat.reduceSub, Nat.reduceMul, Nat.reduceEqDiff, Nat.reduceLT, Nat.reduceLeDiff, Nat.reduceBEq, reduceIte, reduceCtorEq, Int.reduceToNat, Int.reduceLE, Int.reduceLT, Int.reduceBEq, Int.reduceBNe])
      refine callC_of [] [1] (by decide) rfl (by simp only [go_sem, Nat.reduceAdd, Nat.reduceSub, Nat.reduceMul, Nat.reduceEqDiff, Nat.reduceLT, Nat.reduceLeDiff, Nat.reduceBEq, reduceIte, reduceCtorEq, Int.reduceToNat, Int.reduceLE, Int.reduceLT, Int.reduceBEq, Int.reduceBNe] <;> rfl) (named_ok nmM T (by omega)) ?_
      rintro _ _ ⟨rfl, rfl⟩
      refine ⟨.inr ⟨rfl, rfl⟩, ?_⟩
      rw [e7]
      have hwz : IntKind.i64.wrap (s1 - a) = s1 - a := wrap_i64 (by omega) (by omega)
      simp only [go_sem, Nat.reduceAdd, Nat.reduceSub, Nat.reduceMul, Nat.reduceEqDiff, Nat.reduceLT, Nat.reduceLeDiff, Nat.reduceBEq, reduceIte, reduceCtorEq, Int.reduceToNat, Int.reduceLE, Int.reduceLT, Int.reduceBEq, Int.reduceBNe, bne_self_eq_false, hwz]
      (refine Cl.tr [] [] rfl rfl (by simp only [go_sem, Nat.reduceAdd, Nat.reduceSub, Nat.reduceMul, Nat.reduceEqDiff, Nat.reduceLT, Nat.reduceLeDiff, Nat.reduceBEq, reduceIte, reduceCtorEq, Int.reduceToNat, Int.reduceLE, Int.reduceLT, Int.reduceBEq, Int.reduceBNe] <;> rfl) ?_; simp only [go_sem, Nat.reduceAdd, Nat.reduceSub, Nat.reduceMul, Nat.reduceEqDiff, Nat.reduceLT, Nat.reduceLeDiff, Nat.reduceBEq, reduceIte, reduceCtorEq, Int.reduceToNat, Int.reduceLE, Int.reduceLT, Int.reduceBEq, Int.reduceBNe])
      repeat (refine Cl.here ?_; simp only [go_sem, Nat.reduceAdd, Nat.reduceSub, Nat.reduceMul, Nat.reduceEqDiff, Nat.reduceLT, Nat.reduceLeDiff, Nat.reduceBEq, reduceIte, reduceCtorEq, Int.reduceToNat, Int.reduceLE, Int.reduceLT, Int.reduceBEq, Int.reduceBNe])
      simp only [go_sem, Nat.reduceAdd, Nat.reduceSub, Nat.reduceMul, Nat.reduceEqDiff, Nat.reduceLT, Nat.reduceLeDiff, Nat.reduceBEq, reduceIte, reduceCtorEq, Int.reduceToNat, Int.reduceLE, Int.reduceLT, Int.reduceBEq, Int.reduceBNe, hw1]
      exact ⟨⟨i + 1, by omega, rfl⟩, by omega⟩

end Go.Proofs.Ytodbafiepdcfbaa
