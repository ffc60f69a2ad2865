/- Rest: the breaches of the daily rest; the Mondays of a range; the longest rest; the breaches of the weekly rest. -/
import Derived.Test.YtaloobgfgehhdaaGreatR6Rst1
set_option linter.unusedSimpArgs false
set_option linter.unusedVariables false
set_option linter.unusedSectionVars false
namespace Go.Proofs.YtaloobgfgehhdaaGreat
open Go Go.Abs
set_option linter.unusedSimpArgs false
set_option linter.unusedVariables false

/-- the rests ahead of blocks -/
def rests : Int → List Bk → List Br
  | _, [] => []
  | e, b :: bs => ⟨1, b.day, max (b.fr - e) 0⟩ :: rests (max e b.to) bs
def brIn (n f t : Int) (x : Br) : Bool := decide (f ≤ x.day) && (decide (x.day ≤ t) && decide (x.min < n))
/-- the breaches behind a place: the first block has no rest -/
def dly (n f t : Int) (first : Bool) (e : Int) (B : List Bk) : List Br := if first then (match B with | [] => [] | b :: bs => (rests (max e b.to) bs).filter (brIn n f t)) else (rests e B).filter (brIn n f t)
structure RR where
  daily : Int
  weekly : Int
  average : Int
  weeks : Int
def RR.v (r : RR) : AVal := .agg [.int .i64 r.daily, .int .i64 r.weekly, .int .i64 r.average, .int .i64 r.weeks]
def RR.c (r : RR) : List AVal := [.int .i64 r.daily, .int .i64 r.weekly, .int .i64 r.average, .int .i64 r.weeks]

theorem IsBlk.bd {ws : List Wk} {B : List Bk} (h : IsBlk ws B) (he : spE ws = 0) : B.length ≤ 100000 ∧ ∀ b ∈ B, 0 ≤ b.fr ∧ b.fr ≤ b.to ∧ b.to ≤ 120968640 := by
  obtain ⟨hl1, hl2, hwk, hdj, hsum⟩ := spE_zero he
  have hfl : ∀ s ∈ flatS ws, 0 ≤ s.fr ∧ s.fr ≤ s.to ∧ s.to ≤ 120968640 := fun s hs => by have := (flat_iv hwk s hs).1; unfold ivP at this; omega
  obtain ⟨hnd, hln, hb⟩ := blkF_inv (flatS ws) hfl
  have hSl := flat_len hwk
  have h1 := h.1.length_eq
  rw [List.length_map] at h1
  refine ⟨by omega, fun b hb' => ?_⟩
  obtain ⟨p, hp, rfl⟩ := List.mem_map.1 (h.1.mem_iff.1 hb')
  exact hb p hp
set_option maxHeartbeats 1000000 in
theorem daily_ok (r : RR) (ws : List Wk) (he : spE ws = 0) (f t : Int) : AFn Tryz.prog 18 [.agg r.c, .pure 2 (els ws), .int .i64 f, .int .i64 t] []
    (fun v rs => ∃ B D, IsBlk ws B ∧ D.Perm (dly r.daily f t true 0 B) ∧ v = .own 0 D.length 0 D.length ∧ rs = [.live 40 3 (els D)]) := by
  refine afn Tryz.func18 a18_ok (by simp [a18]) ?_
  unfold RR.c
  simp only [go_sem, Nat.reduceAdd, Nat.reduceSub, Nat.reduceMul, Nat.reduceEqDiff, Nat.reduceLT, Nat.reduceLeDiff, Nat.reduceBEq, reduceIte, reduceCtorEq, Int.reduceToNat, Int.reduceLE, Int.reduceLT, Int.reduceBEq, Int.reduceBNe, a18, a18r0, a18r1, a18r2, a18r3, a18r4, a18r5, a18r6, a18r7, a18r8, a18r9, a18r10, a18r11, a18r12]
  (refine callC_of [] [] (by simp) rfl (bindL_clean _ (by first | rfl | simp only [go_sem, Nat.reduceAdd, Nat.reduceSub, Nat.reduceMul, Nat.reduceEqDiff, Nat.reduceLT, Nat.reduceLeDiff, Nat.reduceBEq, reduceIte, reduceCtorEq, Int.reduceToNat, Int.reduceLE, Int.reduceLT, Int.reduceBEq, Int.reduceBNe])) (blocks_ok ws he) ?_; rintro _ _ ⟨B, hB, rfl, rfl⟩; refine ⟨.inl rfl, ?_⟩; simp only [go_sem, Nat.reduceAdd, Nat.reduceSub, Nat.reduceMul, Nat.reduceEqDiff, Nat.reduceLT, Nat.reduceLeDiff, Nat.reduceBEq, reduceIte, reduceCtorEq, Int.reduceToNat, Int.reduceLE, Int.reduceLT, Int.reduceBEq, Int.reduceBNe])
  obtain ⟨hBl, hbd⟩ := hB.bd he
  refine avc_loop (fun env rows => ∃ (i : Nat) (e : Int) (D : List Br), i ≤ B.length ∧ D ++ dly r.daily f t (i == 0) e (B.drop i) = dly r.daily f t true 0 B ∧ 0 ≤ e ∧ e ≤ 120968640 ∧ D.length ≤ i ∧ env = [(2, .int .i64 f), (3, .int .i64 t), (4, .ref 0 1 0 0), (9, .own 2 D.length 0 D.length), (10, .int .i64 e), (15, .own 1 B.length 0 B.length), (16, .int .i64 B.length), (17, .int .i64 i)] ∧ rows = [.live 33 4 [r.c], .live 85 3 (els B), .live 40 3 (els D)])
    (fun env _ => match slot env 17 with | .int _ j => (B.length - j).toNat | _ => 0) ?_ ?_
  · (refine Cl.ghost 9  40  3 rfl (Cl.norm [ 2, 3, 4, 9, 10, 15, 16, 17] ?_); simp only [go_sem, Nat.reduceAdd, Nat.reduceSub, Nat.reduceMul, Nat.reduceEqDiff, Nat.reduceLT, Nat.reduceLeDiff, Nat.reduceBEq, reduceIte, reduceCtorEq, Int.reduceToNat, Int.reduceLE, Int.reduceLT, Int.reduceBEq, Int.reduceBNe])
    exact Cl.here ⟨0, 0, [], by omega, rfl, by omega, by omega, by simp, rfl, rfl⟩
  · rintro env rows ⟨i, e, D, hi, hd, he0, he1, hDl, rfl, rfl⟩
    have hw : IntKind.i64.wrap ((i : Int) + 1) = ((i + 1 : Nat) : Int) := by rw [wrap_i64 (by omega) (by omega)]; omega
    unfold RR.c
    simp only [go_sem, Nat.reduceAdd, Nat.reduceSub, Nat.reduceMul, Nat.reduceEqDiff, Nat.reduceLT, Nat.reduceLeDiff, Nat.reduceBEq, reduceIte, reduceCtorEq, Int.reduceToNat, Int.reduceLE, Int.reduceLT, Int.reduceBEq, Int.reduceBNe, a18, a18r0, a18r1, a18r2, a18r3, a18r4, a18r5, a18r6, a18r7, a18r8, a18r9, a18r10, a18r11, a18r12]
    refine condC_intro ?_ ?_ <;> intro hg2 <;> simp only [decide_eq_true_eq, decide_eq_false_iff_not, beq_iff_eq, beq_eq_false_iff_ne, bne_iff_ne, bne_eq_false_iff_eq, Bool.not_eq_true', Bool.not_eq_false', Int.not_lt, Int.not_le, ne_eq, Bool.and_eq_true, Bool.or_eq_true, Bool.or_eq_false_iff, Bool.and_eq_false_iff] at hg2 <;> simp only [go_sem, Nat.reduceAdd, Nat.reduceSub, Nat.reduceMul, Nat.reduceEqDiff, Nat.reduceLT, Nat.reduceLeDiff, Nat.reduceBEq, reduceIte, reduceCtorEq, Int.reduceToNat, Int.reduceLE, Int.reduceLT, Int.reduceBEq, Int.reduceBNe, a18, a18r0, a18r1, a18r2, a18r3, a18r4, a18r5, a18r6, a18r7, a18r8, a18r9, a18r10, a18r11, a18r12]
    · have hlt : i < B.length := by omega
      refine ⟨by omega, by omega, ?_⟩
      try simp only [Int.toNat_natCast]
      have hb := hbd B[i] (List.getElem_mem _)
      rw [List.drop_eq_getElem_cons hlt] at hd
      rw [els_getD hlt]
      generalize B[i] = b at hb hd ⊢
      simp only [go_sem, Nat.reduceAdd, Nat.reduceSub, Nat.reduceMul, Nat.reduceEqDiff, Nat.reduceLT, Nat.reduceLeDiff, Nat.reduceBEq, reduceIte, reduceCtorEq, Int.reduceToNat, Int.reduceLE, Int.reduceLT, Int.reduceBEq, Int.reduceBNe, cel_bk]
      rw [wrap_i64 (x := b.fr - e) (by omega) (by omega)]
      cases i with
      | zero =>
        have hd' : D ++ dly r.daily f t false (max e b.to) (B.drop 1) = dly r.daily f t true 0 B := hd
        simp only [go_sem, Nat.reduceAdd, Nat.reduceSub, Nat.reduceMul, Nat.reduceEqDiff, Nat.reduceLT, Nat.reduceLeDiff, Nat.reduceBEq, reduceIte, reduceCtorEq, Int.reduceToNat, Int.reduceLE, Int.reduceLT, Int.reduceBEq, Int.reduceBNe, Int.natCast_zero, gt_iff_lt, Int.lt_irrefl, hw]
        rw [Int.natCast_zero] at hw
        simp only [go_sem, Nat.reduceAdd, Nat.reduceSub, Nat.reduceMul, Nat.reduceEqDiff, Nat.reduceLT, Nat.reduceLeDiff, Nat.reduceBEq, reduceIte, reduceCtorEq, Int.reduceToNat, Int.reduceLE, Int.reduceLT, Int.reduceBEq, Int.reduceBNe, hw]
        (refine Cl.tr [some 0, some 1, some 2] [] rfl rfl (by simp only [go_sem, Nat.reduceAdd, Nat.reduceSub, Nat.reduceMul, Nat.reduceEqDiff, Nat.reduceLT, Nat.reduceLeDiff, Nat.reduceBEq, reduceIte, reduceCtorEq, Int.reduceToNat, Int.reduceLE, Int.reduceLT, Int.reduceBEq, Int.reduceBNe] <;> rfl) ?_; simp only [go_sem, Nat.reduceAdd, Nat.reduceSub, Nat.reduceMul, Nat.reduceEqDiff, Nat.reduceLT, Nat.reduceLeDiff, Nat.reduceBEq, reduceIte, reduceCtorEq, Int.reduceToNat, Int.reduceLE, Int.reduceLT, Int.reduceBEq, Int.reduceBNe])
        refine Cl.here ⟨⟨1, max e b.to, D, by omega, hd', by omega, by omega, by omega, rfl, rfl⟩, ?_⟩
        simp only [go_sem, Nat.reduceAdd, Nat.reduceSub, Nat.reduceMul, Nat.reduceEqDiff, Nat.reduceLT, Nat.reduceLeDiff, Nat.reduceBEq, reduceIte, reduceCtorEq, Int.reduceToNat, Int.reduceLE, Int.reduceLT, Int.reduceBEq, Int.reduceBNe]
        omega
      | succ k =>
        have hpos : ((k + 1 : Nat) : Int) > 0 := by omega
        have hd' : D ++ ((if brIn r.daily f t ⟨1, b.day, max (b.fr - e) 0⟩ = true then [⟨1, b.day, max (b.fr - e) 0⟩] else []) ++ dly r.daily f t false (max e b.to) (B.drop (k + 1 + 1))) = dly r.daily f t true 0 B := by
          rw [← hd]
          congr 1
          have : ((k + 1 : Nat) == 0) = false := by simp
          rw [this]
          unfold dly
          simp only [Bool.false_eq_true, if_false, rests, List.filter_cons]
          split <;> simp
        simp only [go_sem, Nat.reduceAdd, Nat.reduceSub, Nat.reduceMul, Nat.reduceEqDiff, Nat.reduceLT, Nat.reduceLeDiff, Nat.reduceBEq, reduceIte, reduceCtorEq, Int.reduceToNat, Int.reduceLE, Int.reduceLT, Int.reduceBEq, Int.reduceBNe, hpos]
        by_cases h1 : b.day ≥ f
        rotate_left
        · have hbr : brIn r.daily f t ⟨1, b.day, max (b.fr - e) 0⟩ = false := by simp [brIn]; omega
          rw [hbr] at hd'
          simp only [go_sem, Nat.reduceAdd, Nat.reduceSub, Nat.reduceMul, Nat.reduceEqDiff, Nat.reduceLT, Nat.reduceLeDiff, Nat.reduceBEq, reduceIte, reduceCtorEq, Int.reduceToNat, Int.reduceLE, Int.reduceLT, Int.reduceBEq, Int.reduceBNe, h1, hw]
          (refine Cl.tr [some 0, some 1, some 2] [] rfl rfl (by simp only [go_sem, Nat.reduceAdd, Nat.reduceSub, Nat.reduceMul, Nat.reduceEqDiff, Nat.reduceLT, Nat.reduceLeDiff, Nat.reduceBEq, reduceIte, reduceCtorEq, Int.reduceToNat, Int.reduceLE, Int.reduceLT, Int.reduceBEq, Int.reduceBNe] <;> rfl) ?_; simp only [go_sem, Nat.reduceAdd, Nat.reduceSub, Nat.reduceMul, Nat.reduceEqDiff, Nat.reduceLT, Nat.reduceLeDiff, Nat.reduceBEq, reduceIte, reduceCtorEq, Int.reduceToNat, Int.reduceLE, Int.reduceLT, Int.reduceBEq, Int.reduceBNe])
          refine Cl.here ⟨⟨k + 1 + 1, max e b.to, D, by omega, hd', by omega, by omega, by omega, rfl, rfl⟩, ?_⟩
          simp only [go_sem, Nat.reduceAdd, Nat.reduceSub, Nat.reduceMul, Nat.reduceEqDiff, Nat.reduceLT, Nat.reduceLeDiff, Nat.reduceBEq, reduceIte, reduceCtorEq, Int.reduceToNat, Int.reduceLE, Int.reduceLT, Int.reduceBEq, Int.reduceBNe]
          omega
        by_cases h2 : b.day ≤ t
        rotate_left
        · have hbr : brIn r.daily f t ⟨1, b.day, max (b.fr - e) 0⟩ = false := by simp [brIn]; omega
          rw [hbr] at hd'
          simp only [go_sem, Nat.reduceAdd, Nat.reduceSub, Nat.reduceMul, Nat.reduceEqDiff, Nat.reduceLT, Nat.reduceLeDiff, Nat.reduceBEq, reduceIte, reduceCtorEq, Int.reduceToNat, Int.reduceLE, Int.reduceLT, Int.reduceBEq, Int.reduceBNe, h1, h2, hw]
          (refine Cl.tr [some 0, some 1, some 2] [] rfl rfl (by simp only [go_sem, Nat.reduceAdd, Nat.reduceSub, Nat.reduceMul, Nat.reduceEqDiff, Nat.reduceLT, Nat.reduceLeDiff, Nat.reduceBEq, reduceIte, reduceCtorEq, Int.reduceToNat, Int.reduceLE, Int.reduceLT, Int.reduceBEq, Int.reduceBNe] <;> rfl) ?_; simp only [go_sem, Nat.reduceAdd, Nat.reduceSub, Nat.reduceMul, Nat.reduceEqDiff, Nat.reduceLT, Nat.reduceLeDiff, Nat.reduceBEq, reduceIte, reduceCtorEq, Int.reduceToNat, Int.reduceLE, Int.reduceLT, Int.reduceBEq, Int.reduceBNe])
          refine Cl.here ⟨⟨k + 1 + 1, max e b.to, D, by omega, hd', by omega, by omega, by omega, rfl, rfl⟩, ?_⟩
          simp only [go_sem, Nat.reduceAdd, Nat.reduceSub, Nat.reduceMul, Nat.reduceEqDiff, Nat.reduceLT, Nat.reduceLeDiff, Nat.reduceBEq, reduceIte, reduceCtorEq, Int.reduceToNat, Int.reduceLE, Int.reduceLT, Int.reduceBEq, Int.reduceBNe]
          omega
        by_cases h3 : max (b.fr - e) 0 < r.daily
        rotate_left
        · have hbr : brIn r.daily f t ⟨1, b.day, max (b.fr - e) 0⟩ = false := by simp [brIn]; omega
          rw [hbr] at hd'
          simp only [go_sem, Nat.reduceAdd, Nat.reduceSub, Nat.reduceMul, Nat.reduceEqDiff, Nat.reduceLT, Nat.reduceLeDiff, Nat.reduceBEq, reduceIte, reduceCtorEq, Int.reduceToNat, Int.reduceLE, Int.reduceLT, Int.reduceBEq, Int.reduceBNe, h1, h2, h3, hw]
          (refine Cl.tr [some 0, some 1, some 2] [] rfl rfl (by simp only [go_sem, Nat.reduceAdd, Nat.reduceSub, Nat.reduceMul, Nat.reduceEqDiff, Nat.reduceLT, Nat.reduceLeDiff, Nat.reduceBEq, reduceIte, reduceCtorEq, Int.reduceToNat, Int.reduceLE, Int.reduceLT, Int.reduceBEq, Int.reduceBNe] <;> rfl) ?_; simp only [go_sem, Nat.reduceAdd, Nat.reduceSub, Nat.reduceMul, Nat.reduceEqDiff, Nat.reduceLT, Nat.reduceLeDiff, Nat.reduceBEq, reduceIte, reduceCtorEq, Int.reduceToNat, Int.reduceLE, Int.reduceLT, Int.reduceBEq, Int.reduceBNe])
          refine Cl.here ⟨⟨k + 1 + 1, max e b.to, D, by omega, hd', by omega, by omega, by omega, rfl, rfl⟩, ?_⟩
          simp only [go_sem, Nat.reduceAdd, Nat.reduceSub, Nat.reduceMul, Nat.reduceEqDiff, Nat.reduceLT, Nat.reduceLeDiff, Nat.reduceBEq, reduceIte, reduceCtorEq, Int.reduceToNat, Int.reduceLE, Int.reduceLT, Int.reduceBEq, Int.reduceBNe]
          omega
        have hbr : brIn r.daily f t ⟨1, b.day, max (b.fr - e) 0⟩ = true := by simp [brIn]; omega
        rw [hbr, if_pos rfl, ← List.append_assoc] at hd'
        simp only [go_sem, Nat.reduceAdd, Nat.reduceSub, Nat.reduceMul, Nat.reduceEqDiff, Nat.reduceLT, Nat.reduceLeDiff, Nat.reduceBEq, reduceIte, reduceCtorEq, Int.reduceToNat, Int.reduceLE, Int.reduceLT, Int.reduceBEq, Int.reduceBNe, h1, h2, h3, hw]
        refine ⟨by omega, ?_⟩
        rw [br_snoc]
        (refine Cl.tr [some 0, some 1, some 2] [] rfl rfl (by simp only [go_sem, Nat.reduceAdd, Nat.reduceSub, Nat.reduceMul, Nat.reduceEqDiff, Nat.reduceLT, Nat.reduceLeDiff, Nat.reduceBEq, reduceIte, reduceCtorEq, Int.reduceToNat, Int.reduceLE, Int.reduceLT, Int.reduceBEq, Int.reduceBNe] <;> rfl) ?_; simp only [go_sem, Nat.reduceAdd, Nat.reduceSub, Nat.reduceMul, Nat.reduceEqDiff, Nat.reduceLT, Nat.reduceLeDiff, Nat.reduceBEq, reduceIte, reduceCtorEq, Int.reduceToNat, Int.reduceLE, Int.reduceLT, Int.reduceBEq, Int.reduceBNe])
        refine Cl.here ⟨⟨k + 1 + 1, max e b.to, D ++ [⟨1, b.day, max (b.fr - e) 0⟩], by omega, hd', by omega, by omega, by simp; omega, by simp, rfl⟩, ?_⟩
        simp only [go_sem, Nat.reduceAdd, Nat.reduceSub, Nat.reduceMul, Nat.reduceEqDiff, Nat.reduceLT, Nat.reduceLeDiff, Nat.reduceBEq, reduceIte, reduceCtorEq, Int.reduceToNat, Int.reduceLE, Int.reduceLT, Int.reduceBEq, Int.reduceBNe]
        omega
    · obtain rfl : i = B.length := by omega
      have hD : D = dly r.daily f t true 0 B := by
        rw [← hd, List.drop_length]
        cases B with
        | nil => simp [dly]
        | cons b bs => simp [dly, rests]
      (refine callC_of [2] [] (by decide) (by simp only [go_sem, Nat.reduceAdd, Nat.reduceSub, Nat.reduceMul, Nat.reduceEqDiff, Nat.reduceLT, Nat.reduceLeDiff, Nat.reduceBEq, reduceIte, reduceCtorEq, Int.reduceToNat, Int.reduceLE, Int.reduceLT, Int.reduceBEq, Int.reduceBNe] <;> rfl) (by simp only [go_sem, Nat.reduceAdd, Nat.reduceSub, Nat.reduceMul, Nat.reduceEqDiff, Nat.reduceLT, Nat.reduceLeDiff, Nat.reduceBEq, reduceIte, reduceCtorEq, Int.reduceToNat, Int.reduceLE, Int.reduceLT, Int.reduceBEq, Int.reduceBNe] <;> rfl) (sortR_ok D (by omega)) ?_; rintro _ _ ⟨rfl, D', h1, rfl⟩; refine ⟨.inl rfl, ?_⟩; simp only [go_sem, Nat.reduceAdd, Nat.reduceSub, Nat.reduceMul, Nat.reduceEqDiff, Nat.reduceLT, Nat.reduceLeDiff, Nat.reduceBEq, reduceIte, reduceCtorEq, Int.reduceToNat, Int.reduceLE, Int.reduceLT, Int.reduceBEq, Int.reduceBNe])
      (refine Cl.tr [some 2] [] rfl rfl (by simp only [go_sem, Nat.reduceAdd, Nat.reduceSub, Nat.reduceMul, Nat.reduceEqDiff, Nat.reduceLT, Nat.reduceLeDiff, Nat.reduceBEq, reduceIte, reduceCtorEq, Int.reduceToNat, Int.reduceLE, Int.reduceLT, Int.reduceBEq, Int.reduceBNe] <;> rfl) ?_; simp only [go_sem, Nat.reduceAdd, Nat.reduceSub, Nat.reduceMul, Nat.reduceEqDiff, Nat.reduceLT, Nat.reduceLeDiff, Nat.reduceBEq, reduceIte, reduceCtorEq, Int.reduceToNat, Int.reduceLE, Int.reduceLT, Int.reduceBEq, Int.reduceBNe])
      refine Cl.here ⟨B, D', hB, hD ▸ h1, ?_, rfl⟩
      simp [slot, h1.length_eq]

end Go.Proofs.YtaloobgfgehhdaaGreat
