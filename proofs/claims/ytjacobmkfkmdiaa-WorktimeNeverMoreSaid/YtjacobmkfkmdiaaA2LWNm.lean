/- WorktimeNeverMore: the walk. -/
import Derived.Test.YtjacobmkfkmdiaaA2WNm
import Derived.Test.YtjacobmkfkmdiaaA2WSane
set_option linter.unusedSimpArgs false
set_option linter.unusedVariables false
set_option linter.unusedSectionVars false
namespace Go.Proofs.Ytjacobmkfkmdiaa
open Go Go.Abs
set_option linter.unusedSimpArgs false

theorem worktimeNeverMore (l : List Int) (hl : TapeOk l) (grid : Int) : AFn Try.prog 9 [.pure 1 (numsE .i64 l), .int .i64 grid] [] (fun v _ => v = .bool true) := by
  refine afnW Try.func9 a9_ok (by simp [a9]) ?_
  simp only [go_sem, Nat.reduceAdd, Nat.reduceSub, Nat.reduceMul, Nat.reduceEqDiff, Nat.reduceLT, Nat.reduceLeDiff, Nat.reduceBEq, reduceIte, reduceCtorEq, Int.reduceToNat, Int.reduceLE, Int.reduceLT, Int.reduceBEq, Int.reduceBNe, a9, a9r0, a9r1, a9r2, a9r3, a9r4, a9r5, a9r6, a9r7, a9r8, a9r9, a9r10, a9r11, a9r12]
  (refine Cl.here ?_; simp only [go_sem, Nat.reduceAdd, Nat.reduceSub, Nat.reduceMul, Nat.reduceEqDiff, Nat.reduceLT, Nat.reduceLeDiff, Nat.reduceBEq, reduceIte, reduceCtorEq, Int.reduceToNat, Int.reduceLE, Int.reduceLT, Int.reduceBEq, Int.reduceBNe])
  (refine callC_of [] [] (by simp) rfl (bindL_clean _ (by first | rfl | simp only [go_sem, Nat.reduceAdd, Nat.reduceSub, Nat.reduceMul, Nat.reduceEqDiff, Nat.reduceLT, Nat.reduceLeDiff, Nat.reduceBEq, reduceIte, reduceCtorEq, Int.reduceToNat, Int.reduceLE, Int.reduceLT, Int.reduceBEq, Int.reduceBNe])) (new_ok l) ?_; rintro _ _ ⟨rfl, rfl⟩; refine ⟨.inl rfl, ?_⟩; simp only [go_sem, Nat.reduceAdd, Nat.reduceSub, Nat.reduceMul, Nat.reduceEqDiff, Nat.reduceLT, Nat.reduceLeDiff, Nat.reduceBEq, reduceIte, reduceCtorEq, Int.reduceToNat, Int.reduceLE, Int.reduceLT, Int.reduceBEq, Int.reduceBNe])
  (refine Cl.here ?_; simp only [go_sem, Nat.reduceAdd, Nat.reduceSub, Nat.reduceMul, Nat.reduceEqDiff, Nat.reduceLT, Nat.reduceLeDiff, Nat.reduceBEq, reduceIte, reduceCtorEq, Int.reduceToNat, Int.reduceLE, Int.reduceLT, Int.reduceBEq, Int.reduceBNe])
  (refine callC_of [0] [] (by decide) (by simp only [go_sem, Nat.reduceAdd, Nat.reduceSub, Nat.reduceMul, Nat.reduceEqDiff, Nat.reduceLT, Nat.reduceLeDiff, Nat.reduceBEq, reduceIte, reduceCtorEq, Int.reduceToNat, Int.reduceLE, Int.reduceLT, Int.reduceBEq, Int.reduceBNe] <;> rfl) (by simp only [go_sem, Nat.reduceAdd, Nat.reduceSub, Nat.reduceMul, Nat.reduceEqDiff, Nat.reduceLT, Nat.reduceLeDiff, Nat.reduceBEq, reduceIte, reduceCtorEq, Int.reduceToNat, Int.reduceLE, Int.reduceLT, Int.reduceBEq, Int.reduceBNe] <;> rfl) (duty_ok l hl 0 (by omega) (by omega)) ?_; rintro _ _ ⟨at_, ps, pl, rfl, rfl, _, _, hn, hp, hb, hpl⟩; refine ⟨.inl rfl, ?_⟩; simp only [go_sem, Nat.reduceAdd, Nat.reduceSub, Nat.reduceMul, Nat.reduceEqDiff, Nat.reduceLT, Nat.reduceLeDiff, Nat.reduceBEq, reduceIte, reduceCtorEq, Int.reduceToNat, Int.reduceLE, Int.reduceLT, Int.reduceBEq, Int.reduceBNe])
  simp only [go_sem, Nat.reduceAdd, Nat.reduceSub, Nat.reduceMul, Nat.reduceEqDiff, Nat.reduceLT, Nat.reduceLeDiff, Nat.reduceBEq, reduceIte, reduceCtorEq, Int.reduceToNat, Int.reduceLE, Int.reduceLT, Int.reduceBEq, Int.reduceBNe, cel_iv]
  (refine Cl.here ?_; simp only [go_sem, Nat.reduceAdd, Nat.reduceSub, Nat.reduceMul, Nat.reduceEqDiff, Nat.reduceLT, Nat.reduceLeDiff, Nat.reduceBEq, reduceIte, reduceCtorEq, Int.reduceToNat, Int.reduceLE, Int.reduceLT, Int.reduceBEq, Int.reduceBNe])
  refine callC_det (mod_ok grid 60 (by omega) (by omega)) rfl rfl ?_
  have hmb := mod_bounds (v := grid) (n := 60) (by omega)
  generalize mod grid 60 = g0 at hmb ⊢
  simp only [go_sem, Nat.reduceAdd, Nat.reduceSub, Nat.reduceMul, Nat.reduceEqDiff, Nat.reduceLT, Nat.reduceLeDiff, Nat.reduceBEq, reduceIte, reduceCtorEq, Int.reduceToNat, Int.reduceLE, Int.reduceLT, Int.reduceBEq, Int.reduceBNe]
  rw [wrap_i64 (by omega) (by omega)]
  obtain ⟨g, hg⟩ : ∃ g, 1 + g0 = g := ⟨_, rfl⟩
  rw [hg]
  have hz : plOk ⟨0, 0⟩ := .inl ⟨rfl, rfl⟩
  have hb1 : ∀ p ∈ ps, p.to - p.fr ≤ 545 := fun p h => (hb p h).1
  have hb2 : ∀ p ∈ ps, p.br.length ≤ 2 := fun p h => (hb p h).2.1
  have hr1 : rulE ⟨g, 1, 0, []⟩ = 0 := by rw [rulE, if_neg (by simp), if_pos ⟨by unfold Rul.modeOk; simp only; omega, rfl⟩]
  have hr2 : rulE ⟨g, 2, 0, []⟩ = 0 := by rw [rulE, if_neg (by simp), if_pos ⟨by unfold Rul.modeOk; simp only; omega, rfl⟩]
  have hr3 : rulE ⟨0, 0, 0, []⟩ = 0 := rfl
  have hE1 := adjE_ok hr1 hz hp hn hb1
  have hE2 := adjE_ok hr2 hz hp hn hb1
  have hE3 := adjE_ok hr3 hz hp hn hb1
  have hA1 := adjN g 1 0 ⟨0, 0⟩ (-1) 20454 ps hE1
  have hA2 := adjN g 2 0 ⟨0, 0⟩ (-1) 20454 ps hE2
  have hA3 := adjN 0 0 0 ⟨0, 0⟩ (-1) 20454 ps hE3
  have hl1 := workP_length (r := ⟨g, 1, 0, []⟩) rfl (pl := ⟨0, 0⟩) hn hb2
  have hl2 := workP_length (r := ⟨g, 2, 0, []⟩) rfl (pl := ⟨0, 0⟩) hn hb2
  have hl3 := workP_length (r := ⟨0, 0, 0, []⟩) rfl (pl := ⟨0, 0⟩) hn hb2
  have hi1 := (workP_in hE1).1
  have hi2 := (workP_in hE2).1
  have hi3 := (workP_in hE3).1
  obtain ⟨n1, n2, n3⟩ := never_more (g := g) (by omega) hp
  rw [cel_iv] at hA1 hA2 hA3
  generalize workP ⟨g, 1, 0, []⟩ ⟨0, 0⟩ ps = W1 at *
  generalize workP ⟨g, 2, 0, []⟩ ⟨0, 0⟩ ps = W2 at *
  generalize workP ⟨0, 0, 0, []⟩ ⟨0, 0⟩ ps = W3 at *
  (refine Cl.here ?_; simp only [go_sem, Nat.reduceAdd, Nat.reduceSub, Nat.reduceMul, Nat.reduceEqDiff, Nat.reduceLT, Nat.reduceLeDiff, Nat.reduceBEq, reduceIte, reduceCtorEq, Int.reduceToNat, Int.reduceLE, Int.reduceLT, Int.reduceBEq, Int.reduceBNe])
  refine callC_det hA1 rfl rfl ?_
  simp only [go_sem, Nat.reduceAdd, Nat.reduceSub, Nat.reduceMul, Nat.reduceEqDiff, Nat.reduceLT, Nat.reduceLeDiff, Nat.reduceBEq, reduceIte, reduceCtorEq, Int.reduceToNat, Int.reduceLE, Int.reduceLT, Int.reduceBEq, Int.reduceBNe]
  (refine Cl.here ?_; simp only [go_sem, Nat.reduceAdd, Nat.reduceSub, Nat.reduceMul, Nat.reduceEqDiff, Nat.reduceLT, Nat.reduceLeDiff, Nat.reduceBEq, reduceIte, reduceCtorEq, Int.reduceToNat, Int.reduceLE, Int.reduceLT, Int.reduceBEq, Int.reduceBNe])
  refine callC_det hA2 rfl rfl ?_
  simp only [go_sem, Nat.reduceAdd, Nat.reduceSub, Nat.reduceMul, Nat.reduceEqDiff, Nat.reduceLT, Nat.reduceLeDiff, Nat.reduceBEq, reduceIte, reduceCtorEq, Int.reduceToNat, Int.reduceLE, Int.reduceLT, Int.reduceBEq, Int.reduceBNe]
  (refine Cl.here ?_; simp only [go_sem, Nat.reduceAdd, Nat.reduceSub, Nat.reduceMul, Nat.reduceEqDiff, Nat.reduceLT, Nat.reduceLeDiff, Nat.reduceBEq, reduceIte, reduceCtorEq, Int.reduceToNat, Int.reduceLE, Int.reduceLT, Int.reduceBEq, Int.reduceBNe])
  refine callC_det hA3 rfl rfl ?_
  simp only [go_sem, Nat.reduceAdd, Nat.reduceSub, Nat.reduceMul, Nat.reduceEqDiff, Nat.reduceLT, Nat.reduceLeDiff, Nat.reduceBEq, reduceIte, reduceCtorEq, Int.reduceToNat, Int.reduceLE, Int.reduceLT, Int.reduceBEq, Int.reduceBNe]
  repeat (refine Cl.here ?_; simp only [go_sem, Nat.reduceAdd, Nat.reduceSub, Nat.reduceMul, Nat.reduceEqDiff, Nat.reduceLT, Nat.reduceLeDiff, Nat.reduceBEq, reduceIte, reduceCtorEq, Int.reduceToNat, Int.reduceLE, Int.reduceLT, Int.reduceBEq, Int.reduceBNe])
  refine avcW_of _ ?_
  refine avc_loop (fun env rows => ∃ (i : Nat), i ≤ ps.length ∧ env = [(6, .ref 0 1 0 0), (9, .ref 1 1 0 0), (10, .int .i64 0), (11, .ref 2 1 0 0), (12, .int .i64 0), (13, .ref 3 1 0 0), (14, .int .i64 0), (15, .int .i64 (sumP (ps.take i))), (16, .int .i64 i)] ∧
      rows = [.live 66 3 [[.int .i64 (-1), .int .i64 20454, .pure 3 (els ps)]], .live 59 2 [[.int .i64 20454, .pure 2 (els W1)]], .live 59 2 [[.int .i64 20454, .pure 2 (els W2)]], .live 59 2 [[.int .i64 20454, .pure 2 (els W3)]]])
    (fun env _ => match slot env 16 with | .int _ j => (ps.length - j).toNat | _ => 0) ?_ ?_
  · (refine Cl.tr [some 1, some 3, some 4, some 5] [] rfl rfl (by simp only [go_sem, Nat.reduceAdd, Nat.reduceSub, Nat.reduceMul, Nat.reduceEqDiff, Nat.reduceLT, Nat.reduceLeDiff, Nat.reduceBEq, reduceIte, reduceCtorEq, Int.reduceToNat, Int.reduceLE, Int.reduceLT, Int.reduceBEq, Int.reduceBNe] <;> rfl) ?_; simp only [go_sem, Nat.reduceAdd, Nat.reduceSub, Nat.reduceMul, Nat.reduceEqDiff, Nat.reduceLT, Nat.reduceLeDiff, Nat.reduceBEq, reduceIte, reduceCtorEq, Int.reduceToNat, Int.reduceLE, Int.reduceLT, Int.reduceBEq, Int.reduceBNe])
    exact Cl.here ⟨0, by omega, rfl, rfl⟩
  · rintro env rows ⟨i, hi, rfl, rfl⟩
    simp only [go_sem, Nat.reduceAdd, Nat.reduceSub, Nat.reduceMul, Nat.reduceEqDiff, Nat.reduceLT, Nat.reduceLeDiff, Nat.reduceBEq, reduceIte, reduceCtorEq, Int.reduceToNat, Int.reduceLE, Int.reduceLT, Int.reduceBEq, Int.reduceBNe, a9, a9r0, a9r1, a9r2, a9r3, a9r4, a9r5, a9r6, a9r7, a9r8, a9r9, a9r10, a9r11, a9r12]
    refine condC_intro ?_ ?_ <;> intro hg1 <;> simp only [decide_eq_true_eq, decide_eq_false_iff_not, beq_iff_eq, beq_eq_false_iff_ne, bne_iff_ne, bne_eq_false_iff_eq, Bool.not_eq_true', Bool.not_eq_false', Int.not_lt, Int.not_le, ne_eq, Bool.and_eq_true, Bool.or_eq_true, Bool.or_eq_false_iff, Bool.and_eq_false_iff] at hg1 <;> simp only [go_sem, Nat.reduceAdd, Nat.reduceSub, Nat.reduceMul, Nat.reduceEqDiff, Nat.reduceLT, Nat.reduceLeDiff, Nat.reduceBEq, reduceIte, reduceCtorEq, Int.reduceToNat, Int.reduceLE, Int.reduceLT, Int.reduceBEq, Int.reduceBNe, a9, a9r0, a9r1, a9r2, a9r3, a9r4, a9r5, a9r6, a9r7, a9r8, a9r9, a9r10, a9r11, a9r12]
    · have hlt : i < ps.length := by omega
      have hi0 : (0 : Int) ≤ i := by omega
      have hi1 : (i : Int) < ps.length := by omega
      have hget : (els ps).getD i [] = Cel.c ps[i] := els_getD hlt
      have hs : sumP (ps.take (i + 1)) = sumP (ps.take i) + pmin ps[i] := by rw [List.take_add_one, List.getElem?_eq_getElem hlt, Option.toList_some, sumP_snoc]
      have hw1 : IntKind.i64.wrap ((i : Int) + 1) = ((i + 1 : Nat) : Int) := by rw [wrap_i64 (by omega) (by omega)]; omega
      have hsb := sumP_bd (ps := ps.take i)
      have hsl : (ps.take i).length ≤ 3 := by rw [List.length_take]; omega
      have hpb := pmin_bd (p := ps[i])
      have hw2 : IntKind.i64.wrap (sumP (ps.take i) + pmin ps[i]) = sumP (ps.take (i + 1)) := by rw [wrap_i64 (by omega) (by omega), hs]
      simp only [go_sem, Nat.reduceAdd, Nat.reduceSub, Nat.reduceMul, Nat.reduceEqDiff, Nat.reduceLT, Nat.reduceLeDiff, Nat.reduceBEq, reduceIte, reduceCtorEq, Int.reduceToNat, Int.reduceLE, Int.reduceLT, Int.reduceBEq, Int.reduceBNe, hi0, hi1, hget]
      refine callC_det (refMin_ok ps[i]) rfl rfl ?_
      simp only [go_sem, Nat.reduceAdd, Nat.reduceSub, Nat.reduceMul, Nat.reduceEqDiff, Nat.reduceLT, Nat.reduceLeDiff, Nat.reduceBEq, reduceIte, reduceCtorEq, Int.reduceToNat, Int.reduceLE, Int.reduceLT, Int.reduceBEq, Int.reduceBNe, hw2, hw1]
      refine Cl.here ⟨⟨i + 1, by omega, rfl, rfl⟩, ?_⟩
      simp only [go_sem, Nat.reduceAdd, Nat.reduceSub, Nat.reduceMul, Nat.reduceEqDiff, Nat.reduceLT, Nat.reduceLeDiff, Nat.reduceBEq, reduceIte, reduceCtorEq, Int.reduceToNat, Int.reduceLE, Int.reduceLT, Int.reduceBEq, Int.reduceBNe]
      omega
    · have hii : i = ps.length := by omega
      rw [hii, List.take_length]
      have hm1 : minP (W1.take 1024) = ivT W1 := by rw [List.take_of_length_le (by omega), minP_ivT hi1]
      have hm2 : minP (W2.take 1024) = ivT W2 := by rw [List.take_of_length_le (by omega), minP_ivT hi2]
      have hm3 : minP (W3.take 1024) = ivT W3 := by rw [List.take_of_length_le (by omega), minP_ivT hi3]
      have hd1 : decide (ivT W1 ≤ sumP ps) = true := decide_eq_true n1
      have hd2 : decide (sumP ps ≤ ivT W2) = true := decide_eq_true n2
      have hd3 : (ivT W3 == sumP ps) = true := by rw [n3]; exact beq_self_eq_true _
      (refine Cl.here ?_; simp only [go_sem, Nat.reduceAdd, Nat.reduceSub, Nat.reduceMul, Nat.reduceEqDiff, Nat.reduceLT, Nat.reduceLeDiff, Nat.reduceBEq, reduceIte, reduceCtorEq, Int.reduceToNat, Int.reduceLE, Int.reduceLT, Int.reduceBEq, Int.reduceBNe])
      refine callC_det (wmin_ok W1 (by omega)) rfl rfl ?_
      rw [hm1]
      simp only [go_sem, Nat.reduceAdd, Nat.reduceSub, Nat.reduceMul, Nat.reduceEqDiff, Nat.reduceLT, Nat.reduceLeDiff, Nat.reduceBEq, reduceIte, reduceCtorEq, Int.reduceToNat, Int.reduceLE, Int.reduceLT, Int.reduceBEq, Int.reduceBNe, hd1]
      refine callC_det (wmin_ok W2 (by omega)) rfl rfl ?_
      rw [hm2]
      simp only [go_sem, Nat.reduceAdd, Nat.reduceSub, Nat.reduceMul, Nat.reduceEqDiff, Nat.reduceLT, Nat.reduceLeDiff, Nat.reduceBEq, reduceIte, reduceCtorEq, Int.reduceToNat, Int.reduceLE, Int.reduceLT, Int.reduceBEq, Int.reduceBNe, hd2]
      refine callC_det (wmin_ok W3 (by omega)) rfl rfl ?_
      rw [hm3]
      simp only [go_sem, Nat.reduceAdd, Nat.reduceSub, Nat.reduceMul, Nat.reduceEqDiff, Nat.reduceLT, Nat.reduceLeDiff, Nat.reduceBEq, reduceIte, reduceCtorEq, Int.reduceToNat, Int.reduceLE, Int.reduceLT, Int.reduceBEq, Int.reduceBNe, hd3]
      refine callC_det wsane_ok rfl rfl ?_
      simp only [go_sem, Nat.reduceAdd, Nat.reduceSub, Nat.reduceMul, Nat.reduceEqDiff, Nat.reduceLT, Nat.reduceLeDiff, Nat.reduceBEq, reduceIte, reduceCtorEq, Int.reduceToNat, Int.reduceLE, Int.reduceLT, Int.reduceBEq, Int.reduceBNe]
      (refine Cl.here ?_; simp only [go_sem, Nat.reduceAdd, Nat.reduceSub, Nat.reduceMul, Nat.reduceEqDiff, Nat.reduceLT, Nat.reduceLeDiff, Nat.reduceBEq, reduceIte, reduceCtorEq, Int.reduceToNat, Int.reduceLE, Int.reduceLT, Int.reduceBEq, Int.reduceBNe])
      exact Cl.fin rfl rfl

end Go.Proofs.Ytjacobmkfkmdiaa
