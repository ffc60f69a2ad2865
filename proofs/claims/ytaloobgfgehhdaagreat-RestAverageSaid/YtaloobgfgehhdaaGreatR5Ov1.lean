/- Overtime: names, bands, rules. -/
import Derived.Test.YtaloobgfgehhdaaGreatR5Cmp
import Derived.Test.YtaloobgfgehhdaaGreatB1Forms
set_option linter.unusedSimpArgs false
set_option linter.unusedVariables false
set_option linter.unusedSectionVars false
namespace Go.Proofs.YtaloobgfgehhdaaGreat
open Go Go.Abs
set_option linter.unusedSimpArgs false
set_option linter.unusedVariables false

def byteAt (s : ByteArray) (i : Nat) : Nat := (s.data.getD i 0).toNat
def chP (c i : Nat) : Prop := (97 ≤ c ∧ c ≤ 122) ∨ (i ≠ 0 ∧ ((48 ≤ c ∧ c ≤ 57) ∨ c = 95))
instance (c i : Nat) : Decidable (chP c i) := inferInstanceAs (Decidable ((97 ≤ c ∧ c ≤ 122) ∨ (i ≠ 0 ∧ ((48 ≤ c ∧ c ≤ 57) ∨ c = 95))))
def nmP (s : ByteArray) : Prop := (1 ≤ s.size ∧ s.size ≤ 24) ∧ ∀ j, j < s.size → chP (byteAt s j) j
instance (s : ByteArray) : Decidable (nmP s) := inferInstanceAs (Decidable ((1 ≤ s.size ∧ s.size ≤ 24) ∧ ∀ j, j < s.size → chP (byteAt s j) j))

theorem isName_ok (s : ByteArray) : AFn Tryz.prog 37 [.str s] [] (fun v rs => v = .bool (decide (nmP s)) ∧ rs = []) := by
  refine afn Tryz.func37 a37_ok (by simp [a37]) ?_
  simp only [go_sem, Nat.reduceAdd, Nat.reduceSub, Nat.reduceMul, Nat.reduceEqDiff, Nat.reduceLT, Nat.reduceLeDiff, Nat.reduceBEq, reduceIte, reduceCtorEq, Int.reduceToNat, Int.reduceLE, Int.reduceLT, Int.reduceBEq, Int.reduceBNe, a37, a37r0, a37r1, a37r2, a37r3, a37r4, a37r5, a37r6, a37r7, a37r8, a37r9, a37r10, a37r11, a37r12]
  by_cases hs : 1 ≤ s.size ∧ s.size ≤ 24
  rotate_left
  · have hn : decide (nmP s) = false := decide_eq_false fun h => hs h.1
    rw [hn]
    repeat' (first | (refine grdC_intro ?_ ?_ <;> intro hg <;> (have hp := hg; try simp only [decide_eq_true_eq, decide_eq_false_iff_not, beq_iff_eq, beq_eq_false_iff_ne, bne_iff_ne, bne_eq_false_iff_eq, Bool.not_eq_true', Bool.not_eq_false', Int.not_lt, Int.not_le, ne_eq, Bool.and_eq_true, Bool.or_eq_true, Bool.or_eq_false_iff, Bool.and_eq_false_iff] at hp) <;> (first | omega | (simp only [go_sem, Nat.reduceAdd, Nat.reduceSub, Nat.reduceMul, Nat.reduceEqDiff, Nat.reduceLT, Nat.reduceLeDiff, Nat.reduceBEq, reduceIte, reduceCtorEq, Int.reduceToNat, Int.reduceLE, Int.reduceLT, Int.reduceBEq, Int.reduceBNe, hg, a37, a37r0, a37r1, a37r2, a37r3, a37r4, a37r5, a37r6, a37r7, a37r8, a37r9, a37r10, a37r11, a37r12]; clear hg))) | (refine grdD_intro ?_ ?_ <;> intro hg <;> (have hp := hg; try simp only [decide_eq_true_eq, decide_eq_false_iff_not, beq_iff_eq, beq_eq_false_iff_ne, bne_iff_ne, bne_eq_false_iff_eq, Bool.not_eq_true', Bool.not_eq_false', Int.not_lt, Int.not_le, ne_eq, Bool.and_eq_true, Bool.or_eq_true, Bool.or_eq_false_iff, Bool.and_eq_false_iff] at hp) <;> (first | omega | (simp only [go_sem, Nat.reduceAdd, Nat.reduceSub, Nat.reduceMul, Nat.reduceEqDiff, Nat.reduceLT, Nat.reduceLeDiff, Nat.reduceBEq, reduceIte, reduceCtorEq, Int.reduceToNat, Int.reduceLE, Int.reduceLT, Int.reduceBEq, Int.reduceBNe, hg, a37, a37r0, a37r1, a37r2, a37r3, a37r4, a37r5, a37r6, a37r7, a37r8, a37r9, a37r10, a37r11, a37r12]; clear hg))) | (refine condC_intro ?_ ?_ <;> intro hg <;> (have hp := hg; try simp only [decide_eq_true_eq, decide_eq_false_iff_not, beq_iff_eq, beq_eq_false_iff_ne, bne_iff_ne, bne_eq_false_iff_eq, Bool.not_eq_true', Bool.not_eq_false', Int.not_lt, Int.not_le, ne_eq, Bool.and_eq_true, Bool.or_eq_true, Bool.or_eq_false_iff, Bool.and_eq_false_iff] at hp) <;> (first | omega | (simp only [go_sem, Nat.reduceAdd, Nat.reduceSub, Nat.reduceMul, Nat.reduceEqDiff, Nat.reduceLT, Nat.reduceLeDiff, Nat.reduceBEq, reduceIte, reduceCtorEq, Int.reduceToNat, Int.reduceLE, Int.reduceLT, Int.reduceBEq, Int.reduceBNe, hg, a37, a37r0, a37r1, a37r2, a37r3, a37r4, a37r5, a37r6, a37r7, a37r8, a37r9, a37r10, a37r11, a37r12]; clear hg))) | (refine condW_intro ?_ ?_ <;> intro hg <;> (have hp := hg; try simp only [decide_eq_true_eq, decide_eq_false_iff_not, beq_iff_eq, beq_eq_false_iff_ne, bne_iff_ne, bne_eq_false_iff_eq, Bool.not_eq_true', Bool.not_eq_false', Int.not_lt, Int.not_le, ne_eq, Bool.and_eq_true, Bool.or_eq_true, Bool.or_eq_false_iff, Bool.and_eq_false_iff] at hp) <;> (first | omega | (simp only [go_sem, Nat.reduceAdd, Nat.reduceSub, Nat.reduceMul, Nat.reduceEqDiff, Nat.reduceLT, Nat.reduceLeDiff, Nat.reduceBEq, reduceIte, reduceCtorEq, Int.reduceToNat, Int.reduceLE, Int.reduceLT, Int.reduceBEq, Int.reduceBNe, hg, a37, a37r0, a37r1, a37r2, a37r3, a37r4, a37r5, a37r6, a37r7, a37r8, a37r9, a37r10, a37r11, a37r12]; clear hg))))
    all_goals exact Cl.fin rfl ⟨rfl, rfl⟩
  have h1 : ¬ (s.size : Int) < 1 := by omega
  have h2 : ¬ (s.size : Int) > 24 := by omega
  simp only [go_sem, Nat.reduceAdd, Nat.reduceSub, Nat.reduceMul, Nat.reduceEqDiff, Nat.reduceLT, Nat.reduceLeDiff, Nat.reduceBEq, reduceIte, reduceCtorEq, Int.reduceToNat, Int.reduceLE, Int.reduceLT, Int.reduceBEq, Int.reduceBNe, h1, h2]
  refine avc_loop (fun env rows => ∃ i : Nat, i ≤ s.size ∧ (∀ j, j < i → chP (byteAt s j) j) ∧ env = [(0, .str s), (16, .int .i64 s.size), (17, .int .i64 i)] ∧ rows = [])
    (fun env _ => match slot env 17 with | .int _ j => (s.size - j).toNat | _ => 0) ?_ ?_
  · exact Cl.here ⟨0, by omega, fun j hj => by omega, rfl, rfl⟩
  · rintro env rows ⟨i, hi, hall, rfl, rfl⟩
    have hw : IntKind.i64.wrap ((i : Int) + 1) = ((i + 1 : Nat) : Int) := by rw [wrap_i64 (by omega) (by omega)]; omega
    simp only [go_sem, Nat.reduceAdd, Nat.reduceSub, Nat.reduceMul, Nat.reduceEqDiff, Nat.reduceLT, Nat.reduceLeDiff, Nat.reduceBEq, reduceIte, reduceCtorEq, Int.reduceToNat, Int.reduceLE, Int.reduceLT, Int.reduceBEq, Int.reduceBNe, a37, a37r0, a37r1, a37r2, a37r3, a37r4, a37r5, a37r6, a37r7, a37r8, a37r9, a37r10, a37r11, a37r12]
    refine condC_intro ?_ ?_ <;> intro hg2 <;> simp only [decide_eq_true_eq, decide_eq_false_iff_not, beq_iff_eq, beq_eq_false_iff_ne, bne_iff_ne, bne_eq_false_iff_eq, Bool.not_eq_true', Bool.not_eq_false', Int.not_lt, Int.not_le, ne_eq, Bool.and_eq_true, Bool.or_eq_true, Bool.or_eq_false_iff, Bool.and_eq_false_iff] at hg2 <;> simp only [go_sem, Nat.reduceAdd, Nat.reduceSub, Nat.reduceMul, Nat.reduceEqDiff, Nat.reduceLT, Nat.reduceLeDiff, Nat.reduceBEq, reduceIte, reduceCtorEq, Int.reduceToNat, Int.reduceLE, Int.reduceLT, Int.reduceBEq, Int.reduceBNe, a37, a37r0, a37r1, a37r2, a37r3, a37r4, a37r5, a37r6, a37r7, a37r8, a37r9, a37r10, a37r11, a37r12]
    · refine ⟨by omega, by omega, ?_⟩
      try simp only [Int.toNat_natCast]
      have hb : byteAt s i = (s.data.getD i 0).toNat := rfl
      rw [← hb]
      clear hb h1 h2
      have hbad : ¬ chP (byteAt s i) i → decide (nmP s) = false := fun h => decide_eq_false fun h' => h (h'.2 i (by omega))
      have hgood : chP (byteAt s i) i → ∀ j, j < i + 1 → chP (byteAt s j) j := fun h j hj => by
        by_cases hji : j = i
        · subst hji; exact h
        · exact hall j (by omega)
      clear hall
      generalize byteAt s i = c at hbad hgood ⊢
      simp only [chP] at hbad hgood
      repeat' (first | (refine grdC_intro ?_ ?_ <;> intro hg <;> (have hp := hg; try simp only [decide_eq_true_eq, decide_eq_false_iff_not, beq_iff_eq, beq_eq_false_iff_ne, bne_iff_ne, bne_eq_false_iff_eq, Bool.not_eq_true', Bool.not_eq_false', Int.not_lt, Int.not_le, ne_eq, Bool.and_eq_true, Bool.or_eq_true, Bool.or_eq_false_iff, Bool.and_eq_false_iff] at hp) <;> (first | omega | (simp only [go_sem, Nat.reduceAdd, Nat.reduceSub, Nat.reduceMul, Nat.reduceEqDiff, Nat.reduceLT, Nat.reduceLeDiff, Nat.reduceBEq, reduceIte, reduceCtorEq, Int.reduceToNat, Int.reduceLE, Int.reduceLT, Int.reduceBEq, Int.reduceBNe, hg, a37, a37r0, a37r1, a37r2, a37r3, a37r4, a37r5, a37r6, a37r7, a37r8, a37r9, a37r10, a37r11, a37r12, hw]; clear hg))) | (refine grdD_intro ?_ ?_ <;> intro hg <;> (have hp := hg; try simp only [decide_eq_true_eq, decide_eq_false_iff_not, beq_iff_eq, beq_eq_false_iff_ne, bne_iff_ne, bne_eq_false_iff_eq, Bool.not_eq_true', Bool.not_eq_false', Int.not_lt, Int.not_le, ne_eq, Bool.and_eq_true, Bool.or_eq_true, Bool.or_eq_false_iff, Bool.and_eq_false_iff] at hp) <;> (first | omega | (simp only [go_sem, Nat.reduceAdd, Nat.reduceSub, Nat.reduceMul, Nat.reduceEqDiff, Nat.reduceLT, Nat.reduceLeDiff, Nat.reduceBEq, reduceIte, reduceCtorEq, Int.reduceToNat, Int.reduceLE, Int.reduceLT, Int.reduceBEq, Int.reduceBNe, hg, a37, a37r0, a37r1, a37r2, a37r3, a37r4, a37r5, a37r6, a37r7, a37r8, a37r9, a37r10, a37r11, a37r12, hw]; clear hg))) | (refine condC_intro ?_ ?_ <;> intro hg <;> (have hp := hg; try simp only [decide_eq_true_eq, decide_eq_false_iff_not, beq_iff_eq, beq_eq_false_iff_ne, bne_iff_ne, bne_eq_false_iff_eq, Bool.not_eq_true', Bool.not_eq_false', Int.not_lt, Int.not_le, ne_eq, Bool.and_eq_true, Bool.or_eq_true, Bool.or_eq_false_iff, Bool.and_eq_false_iff] at hp) <;> (first | omega | (simp only [go_sem, Nat.reduceAdd, Nat.reduceSub, Nat.reduceMul, Nat.reduceEqDiff, Nat.reduceLT, Nat.reduceLeDiff, Nat.reduceBEq, reduceIte, reduceCtorEq, Int.reduceToNat, Int.reduceLE, Int.reduceLT, Int.reduceBEq, Int.reduceBNe, hg, a37, a37r0, a37r1, a37r2, a37r3, a37r4, a37r5, a37r6, a37r7, a37r8, a37r9, a37r10, a37r11, a37r12, hw]; clear hg))) | (refine condW_intro ?_ ?_ <;> intro hg <;> (have hp := hg; try simp only [decide_eq_true_eq, decide_eq_false_iff_not, beq_iff_eq, beq_eq_false_iff_ne, bne_iff_ne, bne_eq_false_iff_eq, Bool.not_eq_true', Bool.not_eq_false', Int.not_lt, Int.not_le, ne_eq, Bool.and_eq_true, Bool.or_eq_true, Bool.or_eq_false_iff, Bool.and_eq_false_iff] at hp) <;> (first | omega | (simp only [go_sem, Nat.reduceAdd, Nat.reduceSub, Nat.reduceMul, Nat.reduceEqDiff, Nat.reduceLT, Nat.reduceLeDiff, Nat.reduceBEq, reduceIte, reduceCtorEq, Int.reduceToNat, Int.reduceLE, Int.reduceLT, Int.reduceBEq, Int.reduceBNe, hg, a37, a37r0, a37r1, a37r2, a37r3, a37r4, a37r5, a37r6, a37r7, a37r8, a37r9, a37r10, a37r11, a37r12, hw]; clear hg))))
      all_goals first
        | (refine Cl.fin rfl ⟨?_, rfl⟩; rw [hbad (by omega)]; done)
        | (refine Cl.here ⟨⟨i + 1, by omega, hgood (by omega), rfl, rfl⟩, ?_⟩; simp only [go_sem, Nat.reduceAdd, Nat.reduceSub, Nat.reduceMul, Nat.reduceEqDiff, Nat.reduceLT, Nat.reduceLeDiff, Nat.reduceBEq, reduceIte, reduceCtorEq, Int.reduceToNat, Int.reduceLE, Int.reduceLT, Int.reduceBEq, Int.reduceBNe]; omega)
    · refine Cl.fin rfl ⟨?_, rfl⟩
      rw [decide_eq_true]
      exact ⟨hs, fun j hj => hall j (by omega)⟩

def bdsB : Int → List Bd → Bool
  | _, [] => true
  | b, x :: xs => decide (nmP x.name) && (decide (b < x.after) && (decide (x.after ≤ 10080) && bdsB x.after xs))
theorem bdsB_drop {b : Int} {l : List Bd} {i : Nat} (h : i < l.length) : bdsB b (l.drop i) = (decide (nmP l[i].name) && (decide (b < l[i].after) && (decide (l[i].after ≤ 10080) && bdsB l[i].after (l.drop (i + 1))))) := by
  rw [List.drop_eq_getElem_cons h, bdsB]

theorem validBands_ok (l : List Bd) (hl : l.length ≤ 1000) : AFn Tryz.prog 38 [.pure 2 (els l)] [] (fun v rs => v = .bool (bdsB (-1) l) ∧ rs = []) := by
  refine afn Tryz.func38 a38_ok (by simp [a38]) ?_
  simp only [go_sem, Nat.reduceAdd, Nat.reduceSub, Nat.reduceMul, Nat.reduceEqDiff, Nat.reduceLT, Nat.reduceLeDiff, Nat.reduceBEq, reduceIte, reduceCtorEq, Int.reduceToNat, Int.reduceLE, Int.reduceLT, Int.reduceBEq, Int.reduceBNe, a38, a38r0, a38r1, a38r2, a38r3, a38r4, a38r5, a38r6, a38r7, a38r8, a38r9]
  refine avc_loop (fun env rows => ∃ (i : Nat) (b : Int), i ≤ l.length ∧ bdsB (-1) l = bdsB b (l.drop i) ∧ env = [(3, .int .i64 b), (6, .pure 2 (els l)), (7, .int .i64 l.length), (8, .int .i64 i)] ∧ rows = [])
    (fun env _ => match slot env 8 with | .int _ j => (l.length - j).toNat | _ => 0) ?_ ?_
  · exact Cl.here ⟨0, -1, by omega, rfl, rfl, rfl⟩
  · rintro env rows ⟨i, b, hi, hd, rfl, rfl⟩
    have hw : IntKind.i64.wrap ((i : Int) + 1) = ((i + 1 : Nat) : Int) := by rw [wrap_i64 (by omega) (by omega)]; omega
    simp only [go_sem, Nat.reduceAdd, Nat.reduceSub, Nat.reduceMul, Nat.reduceEqDiff, Nat.reduceLT, Nat.reduceLeDiff, Nat.reduceBEq, reduceIte, reduceCtorEq, Int.reduceToNat, Int.reduceLE, Int.reduceLT, Int.reduceBEq, Int.reduceBNe, a38, a38r0, a38r1, a38r2, a38r3, a38r4, a38r5, a38r6, a38r7, a38r8, a38r9]
    refine condC_intro ?_ ?_ <;> intro hg2 <;> simp only [decide_eq_true_eq, decide_eq_false_iff_not, beq_iff_eq, beq_eq_false_iff_ne, bne_iff_ne, bne_eq_false_iff_eq, Bool.not_eq_true', Bool.not_eq_false', Int.not_lt, Int.not_le, ne_eq, Bool.and_eq_true, Bool.or_eq_true, Bool.or_eq_false_iff, Bool.and_eq_false_iff] at hg2 <;> simp only [go_sem, Nat.reduceAdd, Nat.reduceSub, Nat.reduceMul, Nat.reduceEqDiff, Nat.reduceLT, Nat.reduceLeDiff, Nat.reduceBEq, reduceIte, reduceCtorEq, Int.reduceToNat, Int.reduceLE, Int.reduceLT, Int.reduceBEq, Int.reduceBNe, a38, a38r0, a38r1, a38r2, a38r3, a38r4, a38r5, a38r6, a38r7, a38r8, a38r9]
    · have hlt : i < l.length := by omega
      refine ⟨by omega, by omega, ?_⟩
      try simp only [Int.toNat_natCast]
      rw [bdsB_drop hlt] at hd
      rw [els_getD hlt]
      generalize l[i] = x at hd ⊢
      simp only [go_sem, Nat.reduceAdd, Nat.reduceSub, Nat.reduceMul, Nat.reduceEqDiff, Nat.reduceLT, Nat.reduceLeDiff, Nat.reduceBEq, reduceIte, reduceCtorEq, Int.reduceToNat, Int.reduceLE, Int.reduceLT, Int.reduceBEq, Int.reduceBNe, cel_bd]
      refine callC_det (isName_ok x.name) rfl rfl ?_
      simp only [go_sem, Nat.reduceAdd, Nat.reduceSub, Nat.reduceMul, Nat.reduceEqDiff, Nat.reduceLT, Nat.reduceLeDiff, Nat.reduceBEq, reduceIte, reduceCtorEq, Int.reduceToNat, Int.reduceLE, Int.reduceLT, Int.reduceBEq, Int.reduceBNe]
      by_cases h1 : nmP x.name
      rotate_left
      · simp only [go_sem, Nat.reduceAdd, Nat.reduceSub, Nat.reduceMul, Nat.reduceEqDiff, Nat.reduceLT, Nat.reduceLeDiff, Nat.reduceBEq, reduceIte, reduceCtorEq, Int.reduceToNat, Int.reduceLE, Int.reduceLT, Int.reduceBEq, Int.reduceBNe, h1]
        exact Cl.fin rfl ⟨by rw [hd]; simp [h1], rfl⟩
      by_cases h2 : x.after ≤ b
      · simp only [go_sem, Nat.reduceAdd, Nat.reduceSub, Nat.reduceMul, Nat.reduceEqDiff, Nat.reduceLT, Nat.reduceLeDiff, Nat.reduceBEq, reduceIte, reduceCtorEq, Int.reduceToNat, Int.reduceLE, Int.reduceLT, Int.reduceBEq, Int.reduceBNe, h1, h2]
        exact Cl.fin rfl ⟨by rw [hd]; simp; omega, rfl⟩
      have h2' : b < x.after := by omega
      by_cases h3 : 10080 < x.after
      · simp only [go_sem, Nat.reduceAdd, Nat.reduceSub, Nat.reduceMul, Nat.reduceEqDiff, Nat.reduceLT, Nat.reduceLeDiff, Nat.reduceBEq, reduceIte, reduceCtorEq, Int.reduceToNat, Int.reduceLE, Int.reduceLT, Int.reduceBEq, Int.reduceBNe, h1, h2, h3, gt_iff_lt]
        exact Cl.fin rfl ⟨by rw [hd]; simp; omega, rfl⟩
      have h3' : x.after ≤ 10080 := by omega
      simp only [go_sem, Nat.reduceAdd, Nat.reduceSub, Nat.reduceMul, Nat.reduceEqDiff, Nat.reduceLT, Nat.reduceLeDiff, Nat.reduceBEq, reduceIte, reduceCtorEq, Int.reduceToNat, Int.reduceLE, Int.reduceLT, Int.reduceBEq, Int.reduceBNe, h1, h2, h3, hw, gt_iff_lt]
      simp only [h1, h2', h3', decide_true, Bool.true_and] at hd
      refine Cl.tr [] [] rfl rfl rfl ?_
      simp only [go_sem, Nat.reduceAdd, Nat.reduceSub, Nat.reduceMul, Nat.reduceEqDiff, Nat.reduceLT, Nat.reduceLeDiff, Nat.reduceBEq, reduceIte, reduceCtorEq, Int.reduceToNat, Int.reduceLE, Int.reduceLT, Int.reduceBEq, Int.reduceBNe]
      refine Cl.here ⟨⟨i + 1, x.after, by omega, hd, rfl, rfl⟩, ?_⟩
      simp only [go_sem, Nat.reduceAdd, Nat.reduceSub, Nat.reduceMul, Nat.reduceEqDiff, Nat.reduceLT, Nat.reduceLeDiff, Nat.reduceBEq, reduceIte, reduceCtorEq, Int.reduceToNat, Int.reduceLE, Int.reduceLT, Int.reduceBEq, Int.reduceBNe]
      omega
    · obtain rfl : i = l.length := by omega
      refine Cl.fin rfl ⟨?_, rfl⟩
      rw [hd, List.drop_length]; rfl

structure Rl where
  nm : ByteArray
  dy : List Bd
  wk : List Bd
def vR (R : Rl) : Int := if 16 < R.dy.length ∨ 16 < R.wk.length then 3 else if nmP R.nm ∧ bdsB (-1) R.dy = true ∧ bdsB (-1) R.wk = true then 0 else 1
def Rl.v (R : Rl) : AVal := .agg [.str R.nm, .pure 2 (els R.dy), .pure 2 (els R.wk)]

theorem valid_ok (R : Rl) : AFn Tryz.prog 24 [R.v] [] (fun v rs => v = .int .i64 (vR R) ∧ rs = []) := by
  refine afn Tryz.func24 a24_ok (by simp [a24]) ?_
  unfold vR
  simp only [go_sem, Nat.reduceAdd, Nat.reduceSub, Nat.reduceMul, Nat.reduceEqDiff, Nat.reduceLT, Nat.reduceLeDiff, Nat.reduceBEq, reduceIte, reduceCtorEq, Int.reduceToNat, Int.reduceLE, Int.reduceLT, Int.reduceBEq, Int.reduceBNe, a24, a24r0, a24r1, a24r2, a24r3, a24r4, a24r5, Rl.v]
  by_cases h1 : (R.dy.length : Int) > 16
  · simp only [go_sem, Nat.reduceAdd, Nat.reduceSub, Nat.reduceMul, Nat.reduceEqDiff, Nat.reduceLT, Nat.reduceLeDiff, Nat.reduceBEq, reduceIte, reduceCtorEq, Int.reduceToNat, Int.reduceLE, Int.reduceLT, Int.reduceBEq, Int.reduceBNe, h1]
    exact Cl.fin rfl ⟨by rw [if_pos (by omega)], rfl⟩
  by_cases h2 : (R.wk.length : Int) > 16
  · simp only [go_sem, Nat.reduceAdd, Nat.reduceSub, Nat.reduceMul, Nat.reduceEqDiff, Nat.reduceLT, Nat.reduceLeDiff, Nat.reduceBEq, reduceIte, reduceCtorEq, Int.reduceToNat, Int.reduceLE, Int.reduceLT, Int.reduceBEq, Int.reduceBNe, h1, h2]
    exact Cl.fin rfl ⟨by rw [if_pos (by omega)], rfl⟩
  simp only [go_sem, Nat.reduceAdd, Nat.reduceSub, Nat.reduceMul, Nat.reduceEqDiff, Nat.reduceLT, Nat.reduceLeDiff, Nat.reduceBEq, reduceIte, reduceCtorEq, Int.reduceToNat, Int.reduceLE, Int.reduceLT, Int.reduceBEq, Int.reduceBNe, h1, h2]
  rw [if_neg (by omega)]
  refine callC_det (isName_ok _) rfl rfl ?_
  simp only [go_sem, Nat.reduceAdd, Nat.reduceSub, Nat.reduceMul, Nat.reduceEqDiff, Nat.reduceLT, Nat.reduceLeDiff, Nat.reduceBEq, reduceIte, reduceCtorEq, Int.reduceToNat, Int.reduceLE, Int.reduceLT, Int.reduceBEq, Int.reduceBNe]
  by_cases h3 : nmP R.nm
  rotate_left
  · simp only [go_sem, Nat.reduceAdd, Nat.reduceSub, Nat.reduceMul, Nat.reduceEqDiff, Nat.reduceLT, Nat.reduceLeDiff, Nat.reduceBEq, reduceIte, reduceCtorEq, Int.reduceToNat, Int.reduceLE, Int.reduceLT, Int.reduceBEq, Int.reduceBNe, h3]
    exact Cl.fin rfl ⟨by rw [if_neg (by simp [h3])], rfl⟩
  simp only [go_sem, Nat.reduceAdd, Nat.reduceSub, Nat.reduceMul, Nat.reduceEqDiff, Nat.reduceLT, Nat.reduceLeDiff, Nat.reduceBEq, reduceIte, reduceCtorEq, Int.reduceToNat, Int.reduceLE, Int.reduceLT, Int.reduceBEq, Int.reduceBNe, h3]
  refine callC_det (validBands_ok _ (by omega)) rfl rfl ?_
  rcases h4 : bdsB (-1) R.dy with _ | _
  · simp only [go_sem, Nat.reduceAdd, Nat.reduceSub, Nat.reduceMul, Nat.reduceEqDiff, Nat.reduceLT, Nat.reduceLeDiff, Nat.reduceBEq, reduceIte, reduceCtorEq, Int.reduceToNat, Int.reduceLE, Int.reduceLT, Int.reduceBEq, Int.reduceBNe]
    exact Cl.fin rfl ⟨by rw [if_neg (by simp)], rfl⟩
  simp only [go_sem, Nat.reduceAdd, Nat.reduceSub, Nat.reduceMul, Nat.reduceEqDiff, Nat.reduceLT, Nat.reduceLeDiff, Nat.reduceBEq, reduceIte, reduceCtorEq, Int.reduceToNat, Int.reduceLE, Int.reduceLT, Int.reduceBEq, Int.reduceBNe]
  refine callC_det (validBands_ok _ (by omega)) rfl rfl ?_
  rcases h5 : bdsB (-1) R.wk with _ | _
  · simp only [go_sem, Nat.reduceAdd, Nat.reduceSub, Nat.reduceMul, Nat.reduceEqDiff, Nat.reduceLT, Nat.reduceLeDiff, Nat.reduceBEq, reduceIte, reduceCtorEq, Int.reduceToNat, Int.reduceLE, Int.reduceLT, Int.reduceBEq, Int.reduceBNe]
    exact Cl.fin rfl ⟨rfl, rfl⟩
  · simp only [go_sem, Nat.reduceAdd, Nat.reduceSub, Nat.reduceMul, Nat.reduceEqDiff, Nat.reduceLT, Nat.reduceLeDiff, Nat.reduceBEq, reduceIte, reduceCtorEq, Int.reduceToNat, Int.reduceLE, Int.reduceLT, Int.reduceBEq, Int.reduceBNe]
    exact Cl.fin rfl ⟨rfl, rfl⟩

def ivP (a b : Int) : Prop := 0 ≤ a ∧ a < b ∧ b ≤ 120968640
instance (a b : Int) : Decidable (ivP a b) := inferInstanceAs (Decidable (0 ≤ a ∧ a < b ∧ b ≤ 120968640))
theorem validInterval_ok (a b : Int) : AFn Tryz.prog 39 [.agg [.int .i64 a, .int .i64 b]] [] (fun v rs => v = .bool (decide (ivP a b)) ∧ rs = []) := by
  refine afn Tryz.func39 a39_ok (by simp [a39]) ?_
  simp only [go_sem, Nat.reduceAdd, Nat.reduceSub, Nat.reduceMul, Nat.reduceEqDiff, Nat.reduceLT, Nat.reduceLeDiff, Nat.reduceBEq, reduceIte, reduceCtorEq, Int.reduceToNat, Int.reduceLE, Int.reduceLT, Int.reduceBEq, Int.reduceBNe, a39, a39r0, a39r1]
  repeat' (first | (refine grdC_intro ?_ ?_ <;> intro hg <;> (have hp := hg; try simp only [decide_eq_true_eq, decide_eq_false_iff_not, beq_iff_eq, beq_eq_false_iff_ne, bne_iff_ne, bne_eq_false_iff_eq, Bool.not_eq_true', Bool.not_eq_false', Int.not_lt, Int.not_le, ne_eq, Bool.and_eq_true, Bool.or_eq_true, Bool.or_eq_false_iff, Bool.and_eq_false_iff] at hp) <;> (first | omega | (simp only [go_sem, Nat.reduceAdd, Nat.reduceSub, Nat.reduceMul, Nat.reduceEqDiff, Nat.reduceLT, Nat.reduceLeDiff, Nat.reduceBEq, reduceIte, reduceCtorEq, Int.reduceToNat, Int.reduceLE, Int.reduceLT, Int.reduceBEq, Int.reduceBNe, hg, a39, a39r0, a39r1]; clear hg))) | (refine grdD_intro ?_ ?_ <;> intro hg <;> (have hp := hg; try simp only [decide_eq_true_eq, decide_eq_false_iff_not, beq_iff_eq, beq_eq_false_iff_ne, bne_iff_ne, bne_eq_false_iff_eq, Bool.not_eq_true', Bool.not_eq_false', Int.not_lt, Int.not_le, ne_eq, Bool.and_eq_true, Bool.or_eq_true, Bool.or_eq_false_iff, Bool.and_eq_false_iff] at hp) <;> (first | omega | (simp only [go_sem, Nat.reduceAdd, Nat.reduceSub, Nat.reduceMul, Nat.reduceEqDiff, Nat.reduceLT, Nat.reduceLeDiff, Nat.reduceBEq, reduceIte, reduceCtorEq, Int.reduceToNat, Int.reduceLE, Int.reduceLT, Int.reduceBEq, Int.reduceBNe, hg, a39, a39r0, a39r1]; clear hg))) | (refine condC_intro ?_ ?_ <;> intro hg <;> (have hp := hg; try simp only [decide_eq_true_eq, decide_eq_false_iff_not, beq_iff_eq, beq_eq_false_iff_ne, bne_iff_ne, bne_eq_false_iff_eq, Bool.not_eq_true', Bool.not_eq_false', Int.not_lt, Int.not_le, ne_eq, Bool.and_eq_true, Bool.or_eq_true, Bool.or_eq_false_iff, Bool.and_eq_false_iff] at hp) <;> (first | omega | (simp only [go_sem, Nat.reduceAdd, Nat.reduceSub, Nat.reduceMul, Nat.reduceEqDiff, Nat.reduceLT, Nat.reduceLeDiff, Nat.reduceBEq, reduceIte, reduceCtorEq, Int.reduceToNat, Int.reduceLE, Int.reduceLT, Int.reduceBEq, Int.reduceBNe, hg, a39, a39r0, a39r1]; clear hg))) | (refine condW_intro ?_ ?_ <;> intro hg <;> (have hp := hg; try simp only [decide_eq_true_eq, decide_eq_false_iff_not, beq_iff_eq, beq_eq_false_iff_ne, bne_iff_ne, bne_eq_false_iff_eq, Bool.not_eq_true', Bool.not_eq_false', Int.not_lt, Int.not_le, ne_eq, Bool.and_eq_true, Bool.or_eq_true, Bool.or_eq_false_iff, Bool.and_eq_false_iff] at hp) <;> (first | omega | (simp only [go_sem, Nat.reduceAdd, Nat.reduceSub, Nat.reduceMul, Nat.reduceEqDiff, Nat.reduceLT, Nat.reduceLeDiff, Nat.reduceBEq, reduceIte, reduceCtorEq, Int.reduceToNat, Int.reduceLE, Int.reduceLT, Int.reduceBEq, Int.reduceBNe, hg, a39, a39r0, a39r1]; clear hg))))
  all_goals ((refine Cl.fin rfl ⟨congrArg AVal.bool ?_, rfl⟩; rw [Bool.eq_iff_iff]; simp only [decide_eq_true_eq, decide_eq_false_iff_not, beq_iff_eq, beq_eq_false_iff_ne, bne_iff_ne, bne_eq_false_iff_eq, Bool.not_eq_true', Bool.not_eq_false', Int.not_lt, Int.not_le, ne_eq, Bool.and_eq_true, Bool.or_eq_true, Bool.or_eq_false_iff, Bool.and_eq_false_iff, Bool.false_eq_true, false_iff, true_iff, iff_true, iff_false, and_true, true_and] at *; try simp only [ivP] at *; omega))
theorem isInterval_ok (a b : Int) : AFn Tryz.prog 22 [.agg [.int .i64 a, .int .i64 b]] [] (fun v rs => v = .bool (decide (ivP a b)) ∧ rs = []) := by
  refine afn Tryz.func22 a22_ok (by simp [a22]) ?_
  simp only [go_sem, Nat.reduceAdd, Nat.reduceSub, Nat.reduceMul, Nat.reduceEqDiff, Nat.reduceLT, Nat.reduceLeDiff, Nat.reduceBEq, reduceIte, reduceCtorEq, Int.reduceToNat, Int.reduceLE, Int.reduceLT, Int.reduceBEq, Int.reduceBNe, a22, a22r0, a22r1]
  repeat' (first | (refine grdC_intro ?_ ?_ <;> intro hg <;> (have hp := hg; try simp only [decide_eq_true_eq, decide_eq_false_iff_not, beq_iff_eq, beq_eq_false_iff_ne, bne_iff_ne, bne_eq_false_iff_eq, Bool.not_eq_true', Bool.not_eq_false', Int.not_lt, Int.not_le, ne_eq, Bool.and_eq_true, Bool.or_eq_true, Bool.or_eq_false_iff, Bool.and_eq_false_iff] at hp) <;> (first | omega | (simp only [go_sem, Nat.reduceAdd, Nat.reduceSub, Nat.reduceMul, Nat.reduceEqDiff, Nat.reduceLT, Nat.reduceLeDiff, Nat.reduceBEq, reduceIte, reduceCtorEq, Int.reduceToNat, Int.reduceLE, Int.reduceLT, Int.reduceBEq, Int.reduceBNe, hg, a22, a22r0, a22r1]; clear hg))) | (refine grdD_intro ?_ ?_ <;> intro hg <;> (have hp := hg; try simp only [decide_eq_true_eq, decide_eq_false_iff_not, beq_iff_eq, beq_eq_false_iff_ne, bne_iff_ne, bne_eq_false_iff_eq, Bool.not_eq_true', Bool.not_eq_false', Int.not_lt, Int.not_le, ne_eq, Bool.and_eq_true, Bool.or_eq_true, Bool.or_eq_false_iff, Bool.and_eq_false_iff] at hp) <;> (first | omega | (simp only [go_sem, Nat.reduceAdd, Nat.reduceSub, Nat.reduceMul, Nat.reduceEqDiff, Nat.reduceLT, Nat.reduceLeDiff, Nat.reduceBEq, reduceIte, reduceCtorEq, Int.reduceToNat, Int.reduceLE, Int.reduceLT, Int.reduceBEq, Int.reduceBNe, hg, a22, a22r0, a22r1]; clear hg))) | (refine condC_intro ?_ ?_ <;> intro hg <;> (have hp := hg; try simp only [decide_eq_true_eq, decide_eq_false_iff_not, beq_iff_eq, beq_eq_false_iff_ne, bne_iff_ne, bne_eq_false_iff_eq, Bool.not_eq_true', Bool.not_eq_false', Int.not_lt, Int.not_le, ne_eq, Bool.and_eq_true, Bool.or_eq_true, Bool.or_eq_false_iff, Bool.and_eq_false_iff] at hp) <;> (first | omega | (simp only [go_sem, Nat.reduceAdd, Nat.reduceSub, Nat.reduceMul, Nat.reduceEqDiff, Nat.reduceLT, Nat.reduceLeDiff, Nat.reduceBEq, reduceIte, reduceCtorEq, Int.reduceToNat, Int.reduceLE, Int.reduceLT, Int.reduceBEq, Int.reduceBNe, hg, a22, a22r0, a22r1]; clear hg))) | (refine condW_intro ?_ ?_ <;> intro hg <;> (have hp := hg; try simp only [decide_eq_true_eq, decide_eq_false_iff_not, beq_iff_eq, beq_eq_false_iff_ne, bne_iff_ne, bne_eq_false_iff_eq, Bool.not_eq_true', Bool.not_eq_false', Int.not_lt, Int.not_le, ne_eq, Bool.and_eq_true, Bool.or_eq_true, Bool.or_eq_false_iff, Bool.and_eq_false_iff] at hp) <;> (first | omega | (simp only [go_sem, Nat.reduceAdd, Nat.reduceSub, Nat.reduceMul, Nat.reduceEqDiff, Nat.reduceLT, Nat.reduceLeDiff, Nat.reduceBEq, reduceIte, reduceCtorEq, Int.reduceToNat, Int.reduceLE, Int.reduceLT, Int.reduceBEq, Int.reduceBNe, hg, a22, a22r0, a22r1]; clear hg))))
  all_goals ((refine Cl.fin rfl ⟨congrArg AVal.bool ?_, rfl⟩; rw [Bool.eq_iff_iff]; simp only [decide_eq_true_eq, decide_eq_false_iff_not, beq_iff_eq, beq_eq_false_iff_ne, bne_iff_ne, bne_eq_false_iff_eq, Bool.not_eq_true', Bool.not_eq_false', Int.not_lt, Int.not_le, ne_eq, Bool.and_eq_true, Bool.or_eq_true, Bool.or_eq_false_iff, Bool.and_eq_false_iff, Bool.false_eq_true, false_iff, true_iff, iff_true, iff_false, and_true, true_and] at *; try simp only [ivP] at *; omega))

/-- the band of the minute behind n minutes, and how many minutes it lasts -/
def fnd : Nat → List Bd → Int → Int × Int
  | k, [], _ => ((k : Int) - 1, 100000)
  | k, b :: bs, n => if n < b.after then ((k : Int) - 1, b.after - n) else fnd (k + 1) bs n
theorem fnd_drop {k : Nat} {l : List Bd} {n : Int} {i : Nat} (h : i < l.length) : fnd k (l.drop i) n = if n < l[i].after then ((k : Int) - 1, l[i].after - n) else fnd (k + 1) (l.drop (i + 1)) n := by
  rw [List.drop_eq_getElem_cons h, fnd]
theorem bdsB_get : ∀ {b : Int} {l : List Bd}, bdsB b l = true → ∀ i (h : i < l.length), b < l[i].after ∧ l[i].after ≤ 10080
  | b, [], _, i, h => by simp at h
  | b, x :: xs, hb, i, h => by
    simp only [bdsB, Bool.and_eq_true, decide_eq_true_eq] at hb
    cases i with
    | zero => exact ⟨hb.2.1, hb.2.2.1⟩
    | succ i => have := bdsB_get hb.2.2.2 i (by simpa using h); simp only [List.getElem_cons_succ]; omega

theorem find_ok (l : List Bd) (hl : l.length ≤ 16) (hb : bdsB (-1) l = true) (n : Int) (hn : 0 ≤ n) (hn2 : n ≤ 1000000000000) : AFn Tryz.prog 42 [.pure 2 (els l), .int .i64 n] [] (fun v rs => v = .tup [.int .i64 (fnd 0 l n).1, .int .i64 (fnd 0 l n).2] ∧ rs = []) := by
  refine afn Tryz.func42 a42_ok (by simp [a42]) ?_
  simp only [go_sem, Nat.reduceAdd, Nat.reduceSub, Nat.reduceMul, Nat.reduceEqDiff, Nat.reduceLT, Nat.reduceLeDiff, Nat.reduceBEq, reduceIte, reduceCtorEq, Int.reduceToNat, Int.reduceLE, Int.reduceLT, Int.reduceBEq, Int.reduceBNe, a42, a42r0, a42r1, a42r2, a42r3, a42r4, a42r5, a42r6, a42r7]
  refine avc_loop (fun env rows => ∃ i : Nat, i ≤ l.length ∧ fnd 0 l n = fnd i (l.drop i) n ∧ env = [(0, .pure 2 (els l)), (1, .int .i64 n), (8, .pure 2 (els l)), (9, .int .i64 l.length), (10, .int .i64 i)] ∧ rows = [])
    (fun env _ => match slot env 10 with | .int _ j => (l.length - j).toNat | _ => 0) ?_ ?_
  · exact Cl.here ⟨0, by omega, rfl, rfl, rfl⟩
  · rintro env rows ⟨i, hi, hd, rfl, rfl⟩
    have hw : IntKind.i64.wrap ((i : Int) + 1) = ((i + 1 : Nat) : Int) := by rw [wrap_i64 (by omega) (by omega)]; omega
    simp only [go_sem, Nat.reduceAdd, Nat.reduceSub, Nat.reduceMul, Nat.reduceEqDiff, Nat.reduceLT, Nat.reduceLeDiff, Nat.reduceBEq, reduceIte, reduceCtorEq, Int.reduceToNat, Int.reduceLE, Int.reduceLT, Int.reduceBEq, Int.reduceBNe, a42, a42r0, a42r1, a42r2, a42r3, a42r4, a42r5, a42r6, a42r7]
    refine condC_intro ?_ ?_ <;> intro hg2 <;> simp only [decide_eq_true_eq, decide_eq_false_iff_not, beq_iff_eq, beq_eq_false_iff_ne, bne_iff_ne, bne_eq_false_iff_eq, Bool.not_eq_true', Bool.not_eq_false', Int.not_lt, Int.not_le, ne_eq, Bool.and_eq_true, Bool.or_eq_true, Bool.or_eq_false_iff, Bool.and_eq_false_iff] at hg2 <;> simp only [go_sem, Nat.reduceAdd, Nat.reduceSub, Nat.reduceMul, Nat.reduceEqDiff, Nat.reduceLT, Nat.reduceLeDiff, Nat.reduceBEq, reduceIte, reduceCtorEq, Int.reduceToNat, Int.reduceLE, Int.reduceLT, Int.reduceBEq, Int.reduceBNe, a42, a42r0, a42r1, a42r2, a42r3, a42r4, a42r5, a42r6, a42r7]
    · have hlt : i < l.length := by omega
      refine ⟨by omega, by omega, ?_⟩
      try simp only [Int.toNat_natCast]
      rw [fnd_drop hlt] at hd
      have hx := bdsB_get hb i hlt
      rw [els_getD hlt]
      generalize l[i] = x at hd hx ⊢
      simp only [go_sem, Nat.reduceAdd, Nat.reduceSub, Nat.reduceMul, Nat.reduceEqDiff, Nat.reduceLT, Nat.reduceLeDiff, Nat.reduceBEq, reduceIte, reduceCtorEq, Int.reduceToNat, Int.reduceLE, Int.reduceLT, Int.reduceBEq, Int.reduceBNe, cel_bd]
      by_cases h1 : n < x.after
      · rw [if_pos h1] at hd
        simp only [go_sem, Nat.reduceAdd, Nat.reduceSub, Nat.reduceMul, Nat.reduceEqDiff, Nat.reduceLT, Nat.reduceLeDiff, Nat.reduceBEq, reduceIte, reduceCtorEq, Int.reduceToNat, Int.reduceLE, Int.reduceLT, Int.reduceBEq, Int.reduceBNe, h1, gt_iff_lt]
        rw [wrap_i64 (x := (i : Int) - 1) (by omega) (by omega), wrap_i64 (x := x.after - n) (by omega) (by omega)]
        exact Cl.fin rfl ⟨by rw [hd], rfl⟩
      · rw [if_neg h1] at hd
        simp only [go_sem, Nat.reduceAdd, Nat.reduceSub, Nat.reduceMul, Nat.reduceEqDiff, Nat.reduceLT, Nat.reduceLeDiff, Nat.reduceBEq, reduceIte, reduceCtorEq, Int.reduceToNat, Int.reduceLE, Int.reduceLT, Int.reduceBEq, Int.reduceBNe, h1, hw, gt_iff_lt]
        refine Cl.tr [] [] rfl rfl rfl ?_
        simp only [go_sem, Nat.reduceAdd, Nat.reduceSub, Nat.reduceMul, Nat.reduceEqDiff, Nat.reduceLT, Nat.reduceLeDiff, Nat.reduceBEq, reduceIte, reduceCtorEq, Int.reduceToNat, Int.reduceLE, Int.reduceLT, Int.reduceBEq, Int.reduceBNe]
        refine Cl.here ⟨⟨i + 1, by omega, hd, rfl, rfl⟩, ?_⟩
        simp only [go_sem, Nat.reduceAdd, Nat.reduceSub, Nat.reduceMul, Nat.reduceEqDiff, Nat.reduceLT, Nat.reduceLeDiff, Nat.reduceBEq, reduceIte, reduceCtorEq, Int.reduceToNat, Int.reduceLE, Int.reduceLT, Int.reduceBEq, Int.reduceBNe]
        omega
    · obtain rfl : i = l.length := by omega
      rw [List.drop_length] at hd
      rw [wrap_i64 (x := (l.length : Int) - 1) (by omega) (by omega)]
      exact Cl.fin rfl ⟨by rw [hd]; rfl, rfl⟩

end Go.Proofs.YtaloobgfgehhdaaGreat
