/- PeriodAddsUp: the walk. -/
import Derived.Test.YtlanehcihoiglaaDoorP7Por
import Derived.Test.YtlanehcihoiglaaDoorP7PRef
set_option linter.unusedSimpArgs false
set_option linter.unusedVariables false
set_option linter.unusedSectionVars false
namespace Go.Proofs.YtlanehcihoiglaaDoor
open Go Go.Abs
set_option linter.unusedSimpArgs false
set_option linter.unusedVariables false

/-- a day is in the span of its period -/
theorem of_in {k a d : Int} (h : calE k a = 0) (hd : okD d) : 0 ≤ ofP k a d ∧ ofP k a d < cntP k a ∧ (spP k a (ofP k a d)).1 ≤ d ∧ d ≤ (spP k a (ofP k a d)).2 := by
  have hk := calE_kind h
  have hc := cnt_kind h
  have hm := mon_bd hd
  have h1 := hd.1
  have h2 := hd.2
  unfold ofP spP
  by_cases h0 : k = 0
  · rw [if_pos h0, if_pos h0]
    rw [if_pos h0] at hc
    simp only
    omega
  rw [if_neg h0, if_neg h0]
  rw [if_neg h0] at hc
  by_cases h1' : k = 1
  · rw [if_pos h1', if_pos h1']
    rw [if_pos h1'] at hc
    by_cases hg : 14 < (dateM d).2
    · rw [if_pos hg, if_neg (by omega), show (2 * monthP d + 1) / 2 = monthP d from by omega]
      simp only
      omega
    · rw [if_neg hg, if_pos (by omega), show (2 * monthP d + 0) / 2 = monthP d from by omega]
      simp only
      omega
  rw [if_neg h1', if_neg h1']
  rw [if_neg h1'] at hc
  have hl : lenC k = 14 ∨ lenC k = 7 := by unfold lenC; split <;> simp
  have hmi : 0 ≤ misC k a ∧ misC k a < lenC k := ⟨Int.emod_nonneg _ (by omega), Int.emod_lt_of_pos _ (by omega)⟩
  simp only
  rcases hl with h9 | h9 <;> (rw [h9] at hc hmi ⊢; omega)
theorem list_two {α : Type} {l : List α} (h : l.length = 2) : ∃ x y, l = [x, y] := by
  obtain ⟨x, l1, rfl⟩ : ∃ x l1, l = x :: l1 := by cases l with | nil => simp at h | cons x l => exact ⟨x, l, rfl⟩
  obtain ⟨y, l2, rfl⟩ : ∃ y l2, l1 = y :: l2 := by cases l1 with | nil => simp at h | cons y l => exact ⟨y, l, rfl⟩
  obtain rfl : l2 = [] := by cases l2 with | nil => rfl | cons z l => simp at h
  exact ⟨x, y, rfl⟩
theorem wkN_add {l : List Hol} (hv : validL l = true) {a c b : Int} (ha : okD a) (hb : okD b) (h1 : a < c) (h2 : c ≤ b) : wkN l a (c - 1) + wkN l c b = wkN l a b := by
  have hc1 : okD (c - 1) := ⟨by have := ha.1; omega, by have := hb.2; omega⟩
  have hc : okD c := ⟨by have := ha.1; omega, by have := hb.2; omega⟩
  rw [wkN_eq hv ha hc1 (by omega), wkN_eq hv hc hb h2, wkN_eq hv ha hb (by omega)]
  have h : ∀ n k : Nat, wkC (allH l) a (n + k) = wkC (allH l) a n + wkC (allH l) (a + n) k := by
    intro n k
    induction k with
    | zero => simp [wkC]
    | succ k ih =>
      rw [show n + (k + 1) = (n + k) + 1 from by omega, wkC, wkC, ih, show a + ((n + k : Nat) : Int) = a + n + k from by omega]
      omega
  have := h (c - 1 + 1 - a).toNat (b + 1 - c).toNat
  rw [show a + (((c - 1 + 1 - a).toNat : Nat) : Int) = c from by omega, show (c - 1 + 1 - a).toNat + (b + 1 - c).toNat = (b + 1 - a).toNat from by omega] at this
  exact this.symm
/-- the weights of one part, and of two -/
theorem wL_one {k a n m : Int} {hs : List Hol} : wL k a n [] m hs = [wtP m hs (spP k a n) ⟨(spP k a n).1, (spP k a n).2⟩] := by
  simp [wL, partsO]
theorem wL_two {k a n m c : Int} {hs : List Hol} (h1 : (spP k a n).1 < c) (h2 : c ≤ (spP k a n).2) : wL k a n [c] m hs = [wtP m hs (spP k a n) ⟨(spP k a n).1, c - 1⟩, wtP m hs (spP k a n) ⟨c, (spP k a n).2⟩] := by
  simp only [wL, partsO]
  rw [if_neg (by omega)]
  simp
theorem validP_mk {l : List Hol} (h1 : l.length ≤ 1024) (h2 : validL l = true) : validP l = 0 := by rw [validP, if_neg (by omega), if_pos h2]
theorem wE_zero {k a n m : Int} {cs : List Int} {hs : List Hol} (h : calE k a = 0) (hn : 0 ≤ n ∧ n < cntP k a) (hm : m = 0 ∨ m = 1 ∨ (m = 2 ∧ k = 0)) (hp : partsO (spP k a n).2 (spP k a n).1 cs ≠ none) (hv : validP hs = 0) : wE k a n cs m hs = 0 := by
  unfold wE
  rw [if_neg (fun e => e h), if_neg (fun e => e hn), if_neg (fun e => e hm), if_neg hp, hv]
theorem wt_add {m : Int} {hs : List Hol} {f t c : Int} (hv : validP hs = 0) (h0 : 0 ≤ f) (h1 : f < c) (h2 : c ≤ t) (h3 : t ≤ 84005) : wtP m hs (f, t) ⟨f, c - 1⟩ + wtP m hs (f, t) ⟨c, t⟩ = wtP m hs (f, t) ⟨f, t⟩ := by
  unfold wtP
  simp only
  by_cases m1 : m = 1
  · rw [if_pos m1, if_pos m1, if_pos m1]
    have ha : okD f := ⟨by omega, by omega⟩
    have hb : okD t := ⟨by omega, by omega⟩
    have hc : okD c := ⟨by omega, by omega⟩
    have hc1 : okD (c - 1) := ⟨by omega, by omega⟩
    rw [workP_ok hv ha hc1 (by omega), workP_ok hv hc hb h2, workP_ok hv ha hb (by omega)]
    exact wkN_add (validP_zero hv).2 ha hb h1 h2
  rw [if_neg m1, if_neg m1, if_neg m1]
  by_cases m2 : m = 2
  · rw [if_neg (by omega), if_pos ⟨m2, trivial⟩, if_pos ⟨m2, trivial⟩]
    omega
  · rw [if_neg (fun e => m2 e.1), if_neg (fun e => m2 e.1), if_neg (fun e => m2 e.1)]
    omega

set_option maxHeartbeats 4000000 in
theorem periodAddsUp (l : List Int) (hl : TapeOk l) (am : Int) : AFn Tryd.prog 5 [.pure 1 (numsE .i64 l), .int .i64 am] [] (fun v _ => v = .bool true) := by
  refine afnW Tryd.func5 a5_ok (by simp [a5]) ?_
  simp only [go_sem, Nat.reduceAdd, Nat.reduceSub, Nat.reduceMul, Nat.reduceEqDiff, Nat.reduceLT, Nat.reduceLeDiff, Nat.reduceBEq, reduceIte, reduceCtorEq, Int.reduceToNat, Int.reduceLE, Int.reduceLT, Int.reduceBEq, Int.reduceBNe, a5, a5r0, a5r1, a5r2, a5r3, a5r4, a5r5, a5r6, a5r7, a5r8, a5r9, a5r10, a5r11, a5r12, a5r13, a5r14, a5r15, a5r16, a5r17, a5r18, a5r19, a5r20, a5r21, a5r22, a5r23, a5r24, a5r25]
  (repeat (first | (refine Cl.here ?_; simp only [go_sem, Nat.reduceAdd, Nat.reduceSub, Nat.reduceMul, Nat.reduceEqDiff, Nat.reduceLT, Nat.reduceLeDiff, Nat.reduceBEq, reduceIte, reduceCtorEq, Int.reduceToNat, Int.reduceLE, Int.reduceLT, Int.reduceBEq, Int.reduceBNe]) | simp only [go_sem, Nat.reduceAdd, Nat.reduceSub, Nat.reduceMul, Nat.reduceEqDiff, Nat.reduceLT, Nat.reduceLeDiff, Nat.reduceBEq, reduceIte, reduceCtorEq, Int.reduceToNat, Int.reduceLE, Int.reduceLT, Int.reduceBEq, Int.reduceBNe]))
  (refine callC_of [] [] (by simp) rfl (bindL_clean _ (by first | rfl | simp only [go_sem, Nat.reduceAdd, Nat.reduceSub, Nat.reduceMul, Nat.reduceEqDiff, Nat.reduceLT, Nat.reduceLeDiff, Nat.reduceBEq, reduceIte, reduceCtorEq, Int.reduceToNat, Int.reduceLE, Int.reduceLT, Int.reduceBEq, Int.reduceBNe])) (new_ok l) ?_; rintro _ _ ⟨rfl, rfl⟩; refine ⟨.inl rfl, ?_⟩; simp only [go_sem, Nat.reduceAdd, Nat.reduceSub, Nat.reduceMul, Nat.reduceEqDiff, Nat.reduceLT, Nat.reduceLeDiff, Nat.reduceBEq, reduceIte, reduceCtorEq, Int.reduceToNat, Int.reduceLE, Int.reduceLT, Int.reduceBEq, Int.reduceBNe])
  unfold tp
  (repeat (first | (refine Cl.here ?_; simp only [go_sem, Nat.reduceAdd, Nat.reduceSub, Nat.reduceMul, Nat.reduceEqDiff, Nat.reduceLT, Nat.reduceLeDiff, Nat.reduceBEq, reduceIte, reduceCtorEq, Int.reduceToNat, Int.reduceLE, Int.reduceLT, Int.reduceBEq, Int.reduceBNe]) | simp only [go_sem, Nat.reduceAdd, Nat.reduceSub, Nat.reduceMul, Nat.reduceEqDiff, Nat.reduceLT, Nat.reduceLeDiff, Nat.reduceBEq, reduceIte, reduceCtorEq, Int.reduceToNat, Int.reduceLE, Int.reduceLT, Int.reduceBEq, Int.reduceBNe]))
  refine callC_tape (tcal_ok l hl false) rfl rfl (by omega) (by omega) ?_
  rintro _ at1 h0 h1 ⟨k, a, rfl, hc⟩
  have hc := hc rfl
  (repeat (first | (refine Cl.here ?_; simp only [go_sem, Nat.reduceAdd, Nat.reduceSub, Nat.reduceMul, Nat.reduceEqDiff, Nat.reduceLT, Nat.reduceLeDiff, Nat.reduceBEq, reduceIte, reduceCtorEq, Int.reduceToNat, Int.reduceLE, Int.reduceLT, Int.reduceBEq, Int.reduceBNe]) | simp only [go_sem, Nat.reduceAdd, Nat.reduceSub, Nat.reduceMul, Nat.reduceEqDiff, Nat.reduceLT, Nat.reduceLeDiff, Nat.reduceBEq, reduceIte, reduceCtorEq, Int.reduceToNat, Int.reduceLE, Int.reduceLT, Int.reduceBEq, Int.reduceBNe]))
  refine callD_tape (tdayB_ok l hl) (by simp only [go_sem, Nat.reduceAdd, Nat.reduceSub, Nat.reduceMul, Nat.reduceEqDiff, Nat.reduceLT, Nat.reduceLeDiff, Nat.reduceBEq, reduceIte, reduceCtorEq, Int.reduceToNat, Int.reduceLE, Int.reduceLT, Int.reduceBEq, Int.reduceBNe]) rfl rfl h0 h1 ?_
  rintro _ at2 h0 h1 ⟨x, rfl, hx⟩
  simp only [go_sem, Nat.reduceAdd, Nat.reduceSub, Nat.reduceMul, Nat.reduceEqDiff, Nat.reduceLT, Nat.reduceLeDiff, Nat.reduceBEq, reduceIte, reduceCtorEq, Int.reduceToNat, Int.reduceLE, Int.reduceLT, Int.reduceBEq, Int.reduceBNe]
  have hO := rOf_ok k a x
  rw [if_neg (fun e => e hc), if_pos hx] at hO
  refine callD_det hO rfl rfl ?_
  have hob := ofP_bd hc hx
  have hoc : 0 ≤ ofP k a x ∧ ofP k a x < cntP k a := ⟨(of_in hc hx).1, (of_in hc hx).2.1⟩
  generalize ofP k a x = n at *
  obtain ⟨b0, b1, b2, b3⟩ := sp_bd hc hoc
  have hS := rSpan_ok k a n (by omega) (by omega)
  rw [if_neg (fun e => e hc), if_pos hoc] at hS
  (repeat (first | (refine Cl.here ?_; simp only [go_sem, Nat.reduceAdd, Nat.reduceSub, Nat.reduceMul, Nat.reduceEqDiff, Nat.reduceLT, Nat.reduceLeDiff, Nat.reduceBEq, reduceIte, reduceCtorEq, Int.reduceToNat, Int.reduceLE, Int.reduceLT, Int.reduceBEq, Int.reduceBNe]) | simp only [go_sem, Nat.reduceAdd, Nat.reduceSub, Nat.reduceMul, Nat.reduceEqDiff, Nat.reduceLT, Nat.reduceLeDiff, Nat.reduceBEq, reduceIte, reduceCtorEq, Int.reduceToNat, Int.reduceLE, Int.reduceLT, Int.reduceBEq, Int.reduceBNe]))
  refine callC_det hS rfl rfl ?_
  generalize hsp : spP k a n = sp at *
  obtain ⟨f, t⟩ := sp
  simp only at b0 b1 b2 b3
  (repeat (first | (refine Cl.here ?_; simp only [go_sem, Nat.reduceAdd, Nat.reduceSub, Nat.reduceMul, Nat.reduceEqDiff, Nat.reduceLT, Nat.reduceLeDiff, Nat.reduceBEq, reduceIte, reduceCtorEq, Int.reduceToNat, Int.reduceLE, Int.reduceLT, Int.reduceBEq, Int.reduceBNe]) | simp only [go_sem, Nat.reduceAdd, Nat.reduceSub, Nat.reduceMul, Nat.reduceEqDiff, Nat.reduceLT, Nat.reduceLeDiff, Nat.reduceBEq, reduceIte, reduceCtorEq, Int.reduceToNat, Int.reduceLE, Int.reduceLT, Int.reduceBEq, Int.reduceBNe]))
  refine callC_tape (next_ok l hl 3 (by omega)) rfl rfl h0 h1 ?_
  rintro _ at3 h0 h1 ⟨m, rfl, hm0, hm1⟩
  simp only [go_sem, Nat.reduceAdd, Nat.reduceSub, Nat.reduceMul, Nat.reduceEqDiff, Nat.reduceLT, Nat.reduceLeDiff, Nat.reduceBEq, reduceIte, reduceCtorEq, Int.reduceToNat, Int.reduceLE, Int.reduceLT, Int.reduceBEq, Int.reduceBNe]
  refine Cl.here (avcW_seq_cut (fun env rows => ∃ (m at_ : Int), (m = 0 ∨ m = 1 ∨ (m = 2 ∧ k = 0)) ∧ 0 ≤ at_ ∧ at_ ≤ l.length ∧ norm [1, 5, 6, 7, 9, 11] env = [(1, .int .i64 am), (5, .ref 0 1 0 0), (6, .ref 1 1 0 0), (7, .int .i64 n), (9, .ref 2 1 0 0), (11, .int .i64 m)] ∧ rows = [tapeRow 57 l at_, .live 24 2 [[.int .i64 k, .int .i64 a]], .live 40 2 [[.int .i64 f, .int .i64 t]]]) ?_ ?_)
  · simp only [go_sem, Nat.reduceAdd, Nat.reduceSub, Nat.reduceMul, Nat.reduceEqDiff, Nat.reduceLT, Nat.reduceLeDiff, Nat.reduceBEq, reduceIte, reduceCtorEq, Int.reduceToNat, Int.reduceLE, Int.reduceLT, Int.reduceBEq, Int.reduceBNe]
    by_cases hk : k = 0
    · have hkb : (k != 0) = false := by simp [hk]
      (repeat (first | (refine Cl.here ?_; simp only [go_sem, Nat.reduceAdd, Nat.reduceSub, Nat.reduceMul, Nat.reduceEqDiff, Nat.reduceLT, Nat.reduceLeDiff, Nat.reduceBEq, reduceIte, reduceCtorEq, Int.reduceToNat, Int.reduceLE, Int.reduceLT, Int.reduceBEq, Int.reduceBNe, hkb]) | simp only [go_sem, Nat.reduceAdd, Nat.reduceSub, Nat.reduceMul, Nat.reduceEqDiff, Nat.reduceLT, Nat.reduceLeDiff, Nat.reduceBEq, reduceIte, reduceCtorEq, Int.reduceToNat, Int.reduceLE, Int.reduceLT, Int.reduceBEq, Int.reduceBNe, hkb]))
      exact ⟨m, at3, by omega, h0, h1, rfl, rfl⟩
    · have hkb : (k != 0) = true := by simp [hk]
      (repeat (first | (refine Cl.here ?_; simp only [go_sem, Nat.reduceAdd, Nat.reduceSub, Nat.reduceMul, Nat.reduceEqDiff, Nat.reduceLT, Nat.reduceLeDiff, Nat.reduceBEq, reduceIte, reduceCtorEq, Int.reduceToNat, Int.reduceLE, Int.reduceLT, Int.reduceBEq, Int.reduceBNe, hkb]) | simp only [go_sem, Nat.reduceAdd, Nat.reduceSub, Nat.reduceMul, Nat.reduceEqDiff, Nat.reduceLT, Nat.reduceLeDiff, Nat.reduceBEq, reduceIte, reduceCtorEq, Int.reduceToNat, Int.reduceLE, Int.reduceLT, Int.reduceBEq, Int.reduceBNe, hkb]))
      refine callC_tape (next_ok l hl 2 (by omega)) rfl rfl h0 h1 ?_
      rintro _ at4 h0 h1 ⟨m', rfl, hm2, hm3⟩
      (repeat (first | (refine Cl.here ?_; simp only [go_sem, Nat.reduceAdd, Nat.reduceSub, Nat.reduceMul, Nat.reduceEqDiff, Nat.reduceLT, Nat.reduceLeDiff, Nat.reduceBEq, reduceIte, reduceCtorEq, Int.reduceToNat, Int.reduceLE, Int.reduceLT, Int.reduceBEq, Int.reduceBNe]) | simp only [go_sem, Nat.reduceAdd, Nat.reduceSub, Nat.reduceMul, Nat.reduceEqDiff, Nat.reduceLT, Nat.reduceLeDiff, Nat.reduceBEq, reduceIte, reduceCtorEq, Int.reduceToNat, Int.reduceLE, Int.reduceLT, Int.reduceBEq, Int.reduceBNe]))
      exact ⟨m', at4, by omega, h0, h1, rfl, rfl⟩
  rintro env rows ⟨m, at5, hm, h0, h1, hn, rfl⟩
  refine Cl.norm [1, 5, 6, 7, 9, 11] ?_
  rw [hn]
  (repeat (first | (refine Cl.here ?_; simp only [go_sem, Nat.reduceAdd, Nat.reduceSub, Nat.reduceMul, Nat.reduceEqDiff, Nat.reduceLT, Nat.reduceLeDiff, Nat.reduceBEq, reduceIte, reduceCtorEq, Int.reduceToNat, Int.reduceLE, Int.reduceLT, Int.reduceBEq, Int.reduceBNe]) | simp only [go_sem, Nat.reduceAdd, Nat.reduceSub, Nat.reduceMul, Nat.reduceEqDiff, Nat.reduceLT, Nat.reduceLeDiff, Nat.reduceBEq, reduceIte, reduceCtorEq, Int.reduceToNat, Int.reduceLE, Int.reduceLT, Int.reduceBEq, Int.reduceBNe]))
  (refine callC_of [0] [] (by decide) (by simp only [go_sem, Nat.reduceAdd, Nat.reduceSub, Nat.reduceMul, Nat.reduceEqDiff, Nat.reduceLT, Nat.reduceLeDiff, Nat.reduceBEq, reduceIte, reduceCtorEq, Int.reduceToNat, Int.reduceLE, Int.reduceLT, Int.reduceBEq, Int.reduceBNe] <;> rfl) (by simp only [go_sem, Nat.reduceAdd, Nat.reduceSub, Nat.reduceMul, Nat.reduceEqDiff, Nat.reduceLT, Nat.reduceLeDiff, Nat.reduceBEq, reduceIte, reduceCtorEq, Int.reduceToNat, Int.reduceLE, Int.reduceLT, Int.reduceBEq, Int.reduceBNe] <;> rfl) (tHol_ok l hl false at5 h0 h1) ?_; rintro _ _ ⟨at6, hs, h0, h1, hr, hv, rfl, rfl⟩; refine ⟨.inl rfl, ?_⟩; simp only [go_sem, Nat.reduceAdd, Nat.reduceSub, Nat.reduceMul, Nat.reduceEqDiff, Nat.reduceLT, Nat.reduceLeDiff, Nat.reduceBEq, reduceIte, reduceCtorEq, Int.reduceToNat, Int.reduceLE, Int.reduceLT, Int.reduceBEq, Int.reduceBNe])
  have hv := validP_mk (by omega) (hv rfl)
  (refine Cl.frz [some 0, some 1, some 2] [ 3] rfl rfl (by simp only [go_sem, Nat.reduceAdd, Nat.reduceSub, Nat.reduceMul, Nat.reduceEqDiff, Nat.reduceLT, Nat.reduceLeDiff, Nat.reduceBEq, reduceIte, reduceCtorEq, Int.reduceToNat, Int.reduceLE, Int.reduceLT, Int.reduceBEq, Int.reduceBNe] <;> rfl) ?_; simp only [go_sem, Nat.reduceAdd, Nat.reduceSub, Nat.reduceMul, Nat.reduceEqDiff, Nat.reduceLT, Nat.reduceLeDiff, Nat.reduceBEq, reduceIte, reduceCtorEq, Int.reduceToNat, Int.reduceLE, Int.reduceLT, Int.reduceBEq, Int.reduceBNe])
  have hbt : ∀ z : Int, (z == z) = true := fun z => by simp
  by_cases hft : t = f
  · have hb : (t == f) = true := by simp [hft]
    (repeat (first | (refine Cl.here ?_; simp only [go_sem, Nat.reduceAdd, Nat.reduceSub, Nat.reduceMul, Nat.reduceEqDiff, Nat.reduceLT, Nat.reduceLeDiff, Nat.reduceBEq, reduceIte, reduceCtorEq, Int.reduceToNat, Int.reduceLE, Int.reduceLT, Int.reduceBEq, Int.reduceBNe, hb]) | simp only [go_sem, Nat.reduceAdd, Nat.reduceSub, Nat.reduceMul, Nat.reduceEqDiff, Nat.reduceLT, Nat.reduceLeDiff, Nat.reduceBEq, reduceIte, reduceCtorEq, Int.reduceToNat, Int.reduceLE, Int.reduceLT, Int.reduceBEq, Int.reduceBNe, hb]))
    refine callC_det sane_ok rfl rfl ?_
    (repeat (first | (refine Cl.here ?_; simp only [go_sem, Nat.reduceAdd, Nat.reduceSub, Nat.reduceMul, Nat.reduceEqDiff, Nat.reduceLT, Nat.reduceLeDiff, Nat.reduceBEq, reduceIte, reduceCtorEq, Int.reduceToNat, Int.reduceLE, Int.reduceLT, Int.reduceBEq, Int.reduceBNe]) | simp only [go_sem, Nat.reduceAdd, Nat.reduceSub, Nat.reduceMul, Nat.reduceEqDiff, Nat.reduceLT, Nat.reduceLeDiff, Nat.reduceBEq, reduceIte, reduceCtorEq, Int.reduceToNat, Int.reduceLE, Int.reduceLT, Int.reduceBEq, Int.reduceBNe]))
    exact Cl.fin rfl rfl
  have hb : (t == f) = false := by simp [hft]
  have hw1 : IntKind.i64.wrap (f + 1) = f + 1 := wrap_i64 (by omega) (by omega)
  have hw2 : IntKind.i64.wrap (t - f) = t - f := wrap_i64 (by omega) (by omega)
  (repeat (first | (refine Cl.here ?_; simp only [go_sem, Nat.reduceAdd, Nat.reduceSub, Nat.reduceMul, Nat.reduceEqDiff, Nat.reduceLT, Nat.reduceLeDiff, Nat.reduceBEq, reduceIte, reduceCtorEq, Int.reduceToNat, Int.reduceLE, Int.reduceLT, Int.reduceBEq, Int.reduceBNe, hb, hw1, hw2]) | simp only [go_sem, Nat.reduceAdd, Nat.reduceSub, Nat.reduceMul, Nat.reduceEqDiff, Nat.reduceLT, Nat.reduceLeDiff, Nat.reduceBEq, reduceIte, reduceCtorEq, Int.reduceToNat, Int.reduceLE, Int.reduceLT, Int.reduceBEq, Int.reduceBNe, hb, hw1, hw2]))
  refine callD_tape (next_ok l hl (t - f) (by omega)) (by simp only [go_sem, Nat.reduceAdd, Nat.reduceSub, Nat.reduceMul, Nat.reduceEqDiff, Nat.reduceLT, Nat.reduceLeDiff, Nat.reduceBEq, reduceIte, reduceCtorEq, Int.reduceToNat, Int.reduceLE, Int.reduceLT, Int.reduceBEq, Int.reduceBNe]) rfl rfl h0 h1 ?_
  rintro _ at7 h0 h1 ⟨y, rfl, hy0, hy1⟩
  obtain ⟨c, hcd⟩ : ∃ c, c = f + 1 + y := ⟨_, rfl⟩
  have hw3 : IntKind.i64.wrap (f + 1 + y) = c := by rw [hcd]; exact wrap_i64 (by omega) (by omega)
  have hc1 : f < c := by omega
  have hc2 : c ≤ t := by omega
  have hp1 : partsO (spP k a n).2 (spP k a n).1 [] ≠ none := by simp [partsO]
  have hp2 : partsO (spP k a n).2 (spP k a n).1 [c] ≠ none := by
    rw [hsp]
    simp only [partsO]
    rw [if_neg (by omega)]
    simp
  have z1 := wE_zero hc hoc hm hp1 hv
  have z2 := wE_zero hc hoc hm hp2 hv
  have v1 := wL_one (k := k) (a := a) (n := n) (m := m) (hs := hs)
  have v2 := wL_two (k := k) (a := a) (n := n) (m := m) (c := c) (hs := hs) (by rw [hsp]; exact hc1) (by rw [hsp]; exact hc2)
  have hadd := wt_add (m := m) hv b0 hc1 hc2 b2
  have bd2 := (wL_bd z2).1
  rw [hsp] at v1 v2
  simp only at v1 v2
  rw [v2] at bd2
  have u0 := bd2 _ List.mem_cons_self
  have u1 := bd2 _ (List.mem_cons_of_mem _ List.mem_cons_self)
  have e1 := Weights_ok k a n [] m hs (by omega) (by omega) (by decide) (by omega)
  have e2 := Weights_ok k a n [c] m hs (by omega) (by omega) (by simp) (by omega)
  have e3 := Portions_ok k a n [c] m hs (by omega) (by omega) (by simp) (by omega) z2
  have hmd := mod_bounds (v := am) (n := 100000) (by omega)
  have e4 := Divide_ok (mod am 100000) k a n [c] m hs (by omega) (by omega) (by omega) (by omega) (by simp) (by omega) z2
  rw [v1] at e1
  rw [v2] at e2 e3 e4
  have hthird : m = 2 → wtP m hs (f, t) ⟨f, t⟩ = 30 := by
    intro h2
    unfold wtP
    rw [if_neg (by omega), if_pos ⟨h2, rfl⟩]
    simp only
    omega
  generalize wtP m hs (f, t) ⟨f, t⟩ = w at *
  generalize wtP m hs (f, t) ⟨f, c - 1⟩ = w0 at *
  generalize wtP m hs (f, t) ⟨c, t⟩ = w1 at *
  simp only [go_sem, Nat.reduceAdd, Nat.reduceSub, Nat.reduceMul, Nat.reduceEqDiff, Nat.reduceLT, Nat.reduceLeDiff, Nat.reduceBEq, reduceIte, reduceCtorEq, Int.reduceToNat, Int.reduceLE, Int.reduceLT, Int.reduceBEq, Int.reduceBNe, hw3]
  (refine Cl.tr [some 1] [] rfl rfl (by simp only [go_sem, Nat.reduceAdd, Nat.reduceSub, Nat.reduceMul, Nat.reduceEqDiff, Nat.reduceLT, Nat.reduceLeDiff, Nat.reduceBEq, reduceIte, reduceCtorEq, Int.reduceToNat, Int.reduceLE, Int.reduceLT, Int.reduceBEq, Int.reduceBNe] <;> rfl) ?_; simp only [go_sem, Nat.reduceAdd, Nat.reduceSub, Nat.reduceMul, Nat.reduceEqDiff, Nat.reduceLT, Nat.reduceLeDiff, Nat.reduceBEq, reduceIte, reduceCtorEq, Int.reduceToNat, Int.reduceLE, Int.reduceLT, Int.reduceBEq, Int.reduceBNe])
  have e1' := e1.le (args' := [.agg [.int .i64 k, .int .i64 a], .int .i64 n, .nils, .int .i64 m, .pure 6 (els hs)]) (by simp [leL, le, numsE])
  (refine Cl.here ?_; simp only [go_sem, Nat.reduceAdd, Nat.reduceSub, Nat.reduceMul, Nat.reduceEqDiff, Nat.reduceLT, Nat.reduceLeDiff, Nat.reduceBEq, reduceIte, reduceCtorEq, Int.reduceToNat, Int.reduceLE, Int.reduceLT, Int.reduceBEq, Int.reduceBNe])
  refine callC_of [] [] (by simp) rfl (bindL_clean _ (by first | rfl | simp only [go_sem, Nat.reduceAdd, Nat.reduceSub, Nat.reduceMul, Nat.reduceEqDiff, Nat.reduceLT, Nat.reduceLeDiff, Nat.reduceBEq, reduceIte, reduceCtorEq, Int.reduceToNat, Int.reduceLE, Int.reduceLT, Int.reduceBEq, Int.reduceBNe])) e1' ?_
  rintro _ _ (⟨h, _⟩ | ⟨_, rfl, rfl⟩)
  · exact absurd z1 h
  refine ⟨.inl rfl, ?_⟩
  (repeat (first | (refine Cl.here ?_; simp only [go_sem, Nat.reduceAdd, Nat.reduceSub, Nat.reduceMul, Nat.reduceEqDiff, Nat.reduceLT, Nat.reduceLeDiff, Nat.reduceBEq, reduceIte, reduceCtorEq, Int.reduceToNat, Int.reduceLE, Int.reduceLT, Int.reduceBEq, Int.reduceBNe]) | simp only [go_sem, Nat.reduceAdd, Nat.reduceSub, Nat.reduceMul, Nat.reduceEqDiff, Nat.reduceLT, Nat.reduceLeDiff, Nat.reduceBEq, reduceIte, reduceCtorEq, Int.reduceToNat, Int.reduceLE, Int.reduceLT, Int.reduceBEq, Int.reduceBNe]))
  refine callC_of [] [2] (by decide) rfl (by simp only [go_sem, Nat.reduceAdd, Nat.reduceSub, Nat.reduceMul, Nat.reduceEqDiff, Nat.reduceLT, Nat.reduceLeDiff, Nat.reduceBEq, reduceIte, reduceCtorEq, Int.reduceToNat, Int.reduceLE, Int.reduceLT, Int.reduceBEq, Int.reduceBNe] <;> rfl) e2 ?_
  rintro _ _ (⟨h, _⟩ | ⟨_, rfl, rfl⟩)
  · exact absurd z2 h
  refine ⟨.inr ⟨rfl, rfl⟩, ?_⟩
  have ww : IntKind.i64.wrap (w0 + w1) = w := by rw [← hadd]; exact wrap_i64 (by omega) (by omega)
  have hnum1 : ∀ x : Int, numsE .i64 [x] = [[.int .i64 x]] := fun x => rfl
  have hnum2 : ∀ x y : Int, numsE .i64 [x, y] = [[.int .i64 x], [.int .i64 y]] := fun x y => rfl
  have hbn : ∀ z : Int, (z != z) = false := fun z => by simp
  simp only [hnum1, hnum2]
  have h30 : m = 2 → (w != 30) = false := fun h => by rw [hthird h]; rfl
  (repeat (first | (refine Cl.here ?_; simp only [go_sem, Nat.reduceAdd, Nat.reduceSub, Nat.reduceMul, Nat.reduceEqDiff, Nat.reduceLT, Nat.reduceLeDiff, Nat.reduceBEq, reduceIte, reduceCtorEq, Int.reduceToNat, Int.reduceLE, Int.reduceLT, Int.reduceBEq, Int.reduceBNe, ww, bne_self_eq_false, hbn]) | simp only [go_sem, Nat.reduceAdd, Nat.reduceSub, Nat.reduceMul, Nat.reduceEqDiff, Nat.reduceLT, Nat.reduceLeDiff, Nat.reduceBEq, reduceIte, reduceCtorEq, Int.reduceToNat, Int.reduceLE, Int.reduceLT, Int.reduceBEq, Int.reduceBNe, ww, bne_self_eq_false, hbn]))
  by_cases hm2 : m = 2
  · have hmb : (m == 2) = true := by simp [hm2]
    (repeat (first | (refine Cl.here ?_; simp only [go_sem, Nat.reduceAdd, Nat.reduceSub, Nat.reduceMul, Nat.reduceEqDiff, Nat.reduceLT, Nat.reduceLeDiff, Nat.reduceBEq, reduceIte, reduceCtorEq, Int.reduceToNat, Int.reduceLE, Int.reduceLT, Int.reduceBEq, Int.reduceBNe, hmb, h30 hm2]) | simp only [go_sem, Nat.reduceAdd, Nat.reduceSub, Nat.reduceMul, Nat.reduceEqDiff, Nat.reduceLT, Nat.reduceLeDiff, Nat.reduceBEq, reduceIte, reduceCtorEq, Int.reduceToNat, Int.reduceLE, Int.reduceLT, Int.reduceBEq, Int.reduceBNe, hmb, h30 hm2]))
    refine callC_of [] [4] (by decide) rfl (by simp only [go_sem, Nat.reduceAdd, Nat.reduceSub, Nat.reduceMul, Nat.reduceEqDiff, Nat.reduceLT, Nat.reduceLeDiff, Nat.reduceBEq, reduceIte, reduceCtorEq, Int.reduceToNat, Int.reduceLE, Int.reduceLT, Int.reduceBEq, Int.reduceBNe] <;> rfl) e3 ?_
    have hsum : [w0, w1].sum = w := by simp only [List.sum_cons, List.sum_nil]; omega
    rw [hsum]
    rintro _ _ (⟨hz, rfl, rfl⟩ | ⟨hz, rfl, rfl⟩)
    · refine ⟨.inr ⟨rfl, rfl⟩, ?_⟩
      have hzb : (w == 0) = true := by simp [hz]
      (repeat (first | (refine Cl.here ?_; simp only [go_sem, Nat.reduceAdd, Nat.reduceSub, Nat.reduceMul, Nat.reduceEqDiff, Nat.reduceLT, Nat.reduceLeDiff, Nat.reduceBEq, reduceIte, reduceCtorEq, Int.reduceToNat, Int.reduceLE, Int.reduceLT, Int.reduceBEq, Int.reduceBNe]) | simp only [go_sem, Nat.reduceAdd, Nat.reduceSub, Nat.reduceMul, Nat.reduceEqDiff, Nat.reduceLT, Nat.reduceLeDiff, Nat.reduceBEq, reduceIte, reduceCtorEq, Int.reduceToNat, Int.reduceLE, Int.reduceLT, Int.reduceBEq, Int.reduceBNe]))
      refine callD_det (mod_ok am 100000 (by omega) (by omega)) rfl rfl ?_
      simp only [go_sem, Nat.reduceAdd, Nat.reduceSub, Nat.reduceMul, Nat.reduceEqDiff, Nat.reduceLT, Nat.reduceLeDiff, Nat.reduceBEq, reduceIte, reduceCtorEq, Int.reduceToNat, Int.reduceLE, Int.reduceLT, Int.reduceBEq, Int.reduceBNe]
      refine callD_of [] [5] (by simp only [go_sem, Nat.reduceAdd, Nat.reduceSub, Nat.reduceMul, Nat.reduceEqDiff, Nat.reduceLT, Nat.reduceLeDiff, Nat.reduceBEq, reduceIte, reduceCtorEq, Int.reduceToNat, Int.reduceLE, Int.reduceLT, Int.reduceBEq, Int.reduceBNe]) (by decide) rfl (by simp only [go_sem, Nat.reduceAdd, Nat.reduceSub, Nat.reduceMul, Nat.reduceEqDiff, Nat.reduceLT, Nat.reduceLeDiff, Nat.reduceBEq, reduceIte, reduceCtorEq, Int.reduceToNat, Int.reduceLE, Int.reduceLT, Int.reduceBEq, Int.reduceBNe] <;> rfl) e4 ?_
      rintro _ _ (⟨_, rfl, rfl⟩ | ⟨h2, _⟩)
      rotate_left
      · rw [hsum] at h2; omega
      refine ⟨.inr ⟨rfl, rfl⟩, ?_⟩
      (repeat (first | (refine Cl.here ?_; simp only [go_sem, Nat.reduceAdd, Nat.reduceSub, Nat.reduceMul, Nat.reduceEqDiff, Nat.reduceLT, Nat.reduceLeDiff, Nat.reduceBEq, reduceIte, reduceCtorEq, Int.reduceToNat, Int.reduceLE, Int.reduceLT, Int.reduceBEq, Int.reduceBNe, hzb]) | simp only [go_sem, Nat.reduceAdd, Nat.reduceSub, Nat.reduceMul, Nat.reduceEqDiff, Nat.reduceLT, Nat.reduceLeDiff, Nat.reduceBEq, reduceIte, reduceCtorEq, Int.reduceToNat, Int.reduceLE, Int.reduceLT, Int.reduceBEq, Int.reduceBNe, hzb]))
      refine callC_det sane_ok rfl rfl ?_
      (repeat (first | (refine Cl.here ?_; simp only [go_sem, Nat.reduceAdd, Nat.reduceSub, Nat.reduceMul, Nat.reduceEqDiff, Nat.reduceLT, Nat.reduceLeDiff, Nat.reduceBEq, reduceIte, reduceCtorEq, Int.reduceToNat, Int.reduceLE, Int.reduceLT, Int.reduceBEq, Int.reduceBNe]) | simp only [go_sem, Nat.reduceAdd, Nat.reduceSub, Nat.reduceMul, Nat.reduceEqDiff, Nat.reduceLT, Nat.reduceLeDiff, Nat.reduceBEq, reduceIte, reduceCtorEq, Int.reduceToNat, Int.reduceLE, Int.reduceLT, Int.reduceBEq, Int.reduceBNe]))
      exact Cl.fin rfl rfl
    · refine ⟨.inr ⟨rfl, rfl⟩, ?_⟩
      have hzb : (w == 0) = false := by simp; omega
      (repeat (first | (refine Cl.here ?_; simp only [go_sem, Nat.reduceAdd, Nat.reduceSub, Nat.reduceMul, Nat.reduceEqDiff, Nat.reduceLT, Nat.reduceLeDiff, Nat.reduceBEq, reduceIte, reduceCtorEq, Int.reduceToNat, Int.reduceLE, Int.reduceLT, Int.reduceBEq, Int.reduceBNe]) | simp only [go_sem, Nat.reduceAdd, Nat.reduceSub, Nat.reduceMul, Nat.reduceEqDiff, Nat.reduceLT, Nat.reduceLeDiff, Nat.reduceBEq, reduceIte, reduceCtorEq, Int.reduceToNat, Int.reduceLE, Int.reduceLT, Int.reduceBEq, Int.reduceBNe]))
      refine callD_det (mod_ok am 100000 (by omega) (by omega)) rfl rfl ?_
      simp only [go_sem, Nat.reduceAdd, Nat.reduceSub, Nat.reduceMul, Nat.reduceEqDiff, Nat.reduceLT, Nat.reduceLeDiff, Nat.reduceBEq, reduceIte, reduceCtorEq, Int.reduceToNat, Int.reduceLE, Int.reduceLT, Int.reduceBEq, Int.reduceBNe]
      refine callD_of [] [6] (by simp only [go_sem, Nat.reduceAdd, Nat.reduceSub, Nat.reduceMul, Nat.reduceEqDiff, Nat.reduceLT, Nat.reduceLeDiff, Nat.reduceBEq, reduceIte, reduceCtorEq, Int.reduceToNat, Int.reduceLE, Int.reduceLT, Int.reduceBEq, Int.reduceBNe]) (by decide) rfl (by simp only [go_sem, Nat.reduceAdd, Nat.reduceSub, Nat.reduceMul, Nat.reduceEqDiff, Nat.reduceLT, Nat.reduceLeDiff, Nat.reduceBEq, reduceIte, reduceCtorEq, Int.reduceToNat, Int.reduceLE, Int.reduceLT, Int.reduceBEq, Int.reduceBNe] <;> rfl) e4 ?_
      rintro _ _ (⟨h2, _⟩ | ⟨_, S, hS, hSp, rfl, rfl⟩)
      · rw [hsum] at h2; omega
      refine ⟨.inr ⟨rfl, by simp [flatRow, numsE_flat]⟩, ?_⟩
      have hSl : S.length = 2 := by rw [hS.length_eq]; rfl
      have hSm : ∀ x ∈ S, 0 ≤ x ∧ x < ([w0, w1].length : Nat) := fun x hx => by
        have := hS.mem_iff.1 hx
        unfold idxL at this
        obtain ⟨k, hk, rfl⟩ := List.mem_map.1 this
        rw [List.mem_range] at hk
        omega
      have hmb := miss_bd (t := mod am 100000) (ws := [w0, w1]) (s := [w0, w1].sum) rfl (by rw [hsum]; exact hz) (by simp)
      have hXs := incs_sum (P := partL (mod am 100000) [w0, w1].sum [w0, w1]) (S.take (missL (mod am 100000) [w0, w1].sum [w0, w1]).toNat) (fun i hi => by
        have := hSm i (List.mem_of_mem_take hi)
        simpa [partL] using this)
      have hXl := incs_len (partL (mod am 100000) [w0, w1].sum [w0, w1]) (S.take (missL (mod am 100000) [w0, w1].sum [w0, w1]).toNat)
      rw [List.length_take, hSl] at hXs
      have hXt : (incs (partL (mod am 100000) [w0, w1].sum [w0, w1]) (S.take (missL (mod am 100000) [w0, w1].sum [w0, w1]).toNat)).sum = mod am 100000 := by
        rw [hXs]
        have hd : missL (mod am 100000) [w0, w1].sum [w0, w1] = mod am 100000 - (partL (mod am 100000) [w0, w1].sum [w0, w1]).sum := rfl
        have h22 : ([w0, w1].length : Int) = 2 := rfl
        omega
      obtain ⟨x0, x1, hX⟩ := list_two (show (incs (partL (mod am 100000) [w0, w1].sum [w0, w1]) (S.take (missL (mod am 100000) [w0, w1].sum [w0, w1]).toNat)).length = 2 from by rw [hXl]; rfl)
      rw [hX] at hXt ⊢
      simp only [List.sum_cons, List.sum_nil] at hXt
      have wx : IntKind.i64.wrap (x0 + x1) = mod am 100000 := by rw [show x0 + x1 = mod am 100000 from by omega]; exact wrap_i64 (by omega) (by omega)
      clear hXs hXl hmb hSm hS hSp hX
      obtain ⟨u, rfl⟩ : ∃ u : Nat, w0 = u := ⟨w0.toNat, by omega⟩
      obtain ⟨v, rfl⟩ : ∃ v : Nat, w1 = v := ⟨w1.toNat, by omega⟩
      obtain ⟨s, rfl⟩ : ∃ s : Nat, w = s := ⟨w.toNat, by omega⟩
      have hA := rAdd_ok u v s (by omega) (by omega) (by omega)
      have hels : els [rtP (s : Int) (u : Int), rtP (s : Int) (v : Int)] = [[.int .i64 (u / Nat.gcd u s : Nat), .int .i64 (s / Nat.gcd u s : Nat)], [.int .i64 (v / Nat.gcd v s : Nat), .int .i64 (s / Nat.gcd v s : Nat)]] := rfl
      rw [hels]
      simp only [hnum2]
      (repeat (first | (refine Cl.here ?_; simp only [go_sem, Nat.reduceAdd, Nat.reduceSub, Nat.reduceMul, Nat.reduceEqDiff, Nat.reduceLT, Nat.reduceLeDiff, Nat.reduceBEq, reduceIte, reduceCtorEq, Int.reduceToNat, Int.reduceLE, Int.reduceLT, Int.reduceBEq, Int.reduceBNe, hzb, bne_self_eq_false]) | simp only [go_sem, Nat.reduceAdd, Nat.reduceSub, Nat.reduceMul, Nat.reduceEqDiff, Nat.reduceLT, Nat.reduceLeDiff, Nat.reduceBEq, reduceIte, reduceCtorEq, Int.reduceToNat, Int.reduceLE, Int.reduceLT, Int.reduceBEq, Int.reduceBNe, hzb, bne_self_eq_false]))
      refine callD_det hA rfl rfl ?_
      have hec : eqCells [.int .i64 1, .int .i64 1] [.int .i64 1, .int .i64 1] = true := by simp [eqCells]
      (repeat (first | (refine Cl.here ?_; simp only [go_sem, Nat.reduceAdd, Nat.reduceSub, Nat.reduceMul, Nat.reduceEqDiff, Nat.reduceLT, Nat.reduceLeDiff, Nat.reduceBEq, reduceIte, reduceCtorEq, Int.reduceToNat, Int.reduceLE, Int.reduceLT, Int.reduceBEq, Int.reduceBNe, hec, bne_self_eq_false, Bool.bne_false, wx]) | simp only [go_sem, Nat.reduceAdd, Nat.reduceSub, Nat.reduceMul, Nat.reduceEqDiff, Nat.reduceLT, Nat.reduceLeDiff, Nat.reduceBEq, reduceIte, reduceCtorEq, Int.reduceToNat, Int.reduceLE, Int.reduceLT, Int.reduceBEq, Int.reduceBNe, hec, bne_self_eq_false, Bool.bne_false, wx]))
      refine callD_det (mod_ok am 100000 (by omega) (by omega)) rfl rfl ?_
      (repeat (first | (refine Cl.here ?_; simp only [go_sem, Nat.reduceAdd, Nat.reduceSub, Nat.reduceMul, Nat.reduceEqDiff, Nat.reduceLT, Nat.reduceLeDiff, Nat.reduceBEq, reduceIte, reduceCtorEq, Int.reduceToNat, Int.reduceLE, Int.reduceLT, Int.reduceBEq, Int.reduceBNe, hbt, wx]) | simp only [go_sem, Nat.reduceAdd, Nat.reduceSub, Nat.reduceMul, Nat.reduceEqDiff, Nat.reduceLT, Nat.reduceLeDiff, Nat.reduceBEq, reduceIte, reduceCtorEq, Int.reduceToNat, Int.reduceLE, Int.reduceLT, Int.reduceBEq, Int.reduceBNe, hbt, wx]))
      refine callD_det sane_ok rfl rfl ?_
      (repeat (first | (refine Cl.here ?_; simp only [go_sem, Nat.reduceAdd, Nat.reduceSub, Nat.reduceMul, Nat.reduceEqDiff, Nat.reduceLT, Nat.reduceLeDiff, Nat.reduceBEq, reduceIte, reduceCtorEq, Int.reduceToNat, Int.reduceLE, Int.reduceLT, Int.reduceBEq, Int.reduceBNe]) | simp only [go_sem, Nat.reduceAdd, Nat.reduceSub, Nat.reduceMul, Nat.reduceEqDiff, Nat.reduceLT, Nat.reduceLeDiff, Nat.reduceBEq, reduceIte, reduceCtorEq, Int.reduceToNat, Int.reduceLE, Int.reduceLT, Int.reduceBEq, Int.reduceBNe]))
      exact Cl.fin rfl rfl
  · have hmb : (m == 2) = false := by simp [hm2]
    (repeat (first | (refine Cl.here ?_; simp only [go_sem, Nat.reduceAdd, Nat.reduceSub, Nat.reduceMul, Nat.reduceEqDiff, Nat.reduceLT, Nat.reduceLeDiff, Nat.reduceBEq, reduceIte, reduceCtorEq, Int.reduceToNat, Int.reduceLE, Int.reduceLT, Int.reduceBEq, Int.reduceBNe, hmb]) | simp only [go_sem, Nat.reduceAdd, Nat.reduceSub, Nat.reduceMul, Nat.reduceEqDiff, Nat.reduceLT, Nat.reduceLeDiff, Nat.reduceBEq, reduceIte, reduceCtorEq, Int.reduceToNat, Int.reduceLE, Int.reduceLT, Int.reduceBEq, Int.reduceBNe, hmb]))
    refine callC_of [] [4] (by decide) rfl (by simp only [go_sem, Nat.reduceAdd, Nat.reduceSub, Nat.reduceMul, Nat.reduceEqDiff, Nat.reduceLT, Nat.reduceLeDiff, Nat.reduceBEq, reduceIte, reduceCtorEq, Int.reduceToNat, Int.reduceLE, Int.reduceLT, Int.reduceBEq, Int.reduceBNe] <;> rfl) e3 ?_
    have hsum : [w0, w1].sum = w := by simp only [List.sum_cons, List.sum_nil]; omega
    rw [hsum]
    rintro _ _ (⟨hz, rfl, rfl⟩ | ⟨hz, rfl, rfl⟩)
    · refine ⟨.inr ⟨rfl, rfl⟩, ?_⟩
      have hzb : (w == 0) = true := by simp [hz]
      (repeat (first | (refine Cl.here ?_; simp only [go_sem, Nat.reduceAdd, Nat.reduceSub, Nat.reduceMul, Nat.reduceEqDiff, Nat.reduceLT, Nat.reduceLeDiff, Nat.reduceBEq, reduceIte, reduceCtorEq, Int.reduceToNat, Int.reduceLE, Int.reduceLT, Int.reduceBEq, Int.reduceBNe]) | simp only [go_sem, Nat.reduceAdd, Nat.reduceSub, Nat.reduceMul, Nat.reduceEqDiff, Nat.reduceLT, Nat.reduceLeDiff, Nat.reduceBEq, reduceIte, reduceCtorEq, Int.reduceToNat, Int.reduceLE, Int.reduceLT, Int.reduceBEq, Int.reduceBNe]))
      refine callD_det (mod_ok am 100000 (by omega) (by omega)) rfl rfl ?_
      simp only [go_sem, Nat.reduceAdd, Nat.reduceSub, Nat.reduceMul, Nat.reduceEqDiff, Nat.reduceLT, Nat.reduceLeDiff, Nat.reduceBEq, reduceIte, reduceCtorEq, Int.reduceToNat, Int.reduceLE, Int.reduceLT, Int.reduceBEq, Int.reduceBNe]
      refine callD_of [] [5] (by simp only [go_sem, Nat.reduceAdd, Nat.reduceSub, Nat.reduceMul, Nat.reduceEqDiff, Nat.reduceLT, Nat.reduceLeDiff, Nat.reduceBEq, reduceIte, reduceCtorEq, Int.reduceToNat, Int.reduceLE, Int.reduceLT, Int.reduceBEq, Int.reduceBNe]) (by decide) rfl (by simp only [go_sem, Nat.reduceAdd, Nat.reduceSub, Nat.reduceMul, Nat.reduceEqDiff, Nat.reduceLT, Nat.reduceLeDiff, Nat.reduceBEq, reduceIte, reduceCtorEq, Int.reduceToNat, Int.reduceLE, Int.reduceLT, Int.reduceBEq, Int.reduceBNe] <;> rfl) e4 ?_
      rintro _ _ (⟨_, rfl, rfl⟩ | ⟨h2, _⟩)
      rotate_left
      · rw [hsum] at h2; omega
      refine ⟨.inr ⟨rfl, rfl⟩, ?_⟩
      (repeat (first | (refine Cl.here ?_; simp only [go_sem, Nat.reduceAdd, Nat.reduceSub, Nat.reduceMul, Nat.reduceEqDiff, Nat.reduceLT, Nat.reduceLeDiff, Nat.reduceBEq, reduceIte, reduceCtorEq, Int.reduceToNat, Int.reduceLE, Int.reduceLT, Int.reduceBEq, Int.reduceBNe, hzb]) | simp only [go_sem, Nat.reduceAdd, Nat.reduceSub, Nat.reduceMul, Nat.reduceEqDiff, Nat.reduceLT, Nat.reduceLeDiff, Nat.reduceBEq, reduceIte, reduceCtorEq, Int.reduceToNat, Int.reduceLE, Int.reduceLT, Int.reduceBEq, Int.reduceBNe, hzb]))
      refine callC_det sane_ok rfl rfl ?_
      (repeat (first | (refine Cl.here ?_; simp only [go_sem, Nat.reduceAdd, Nat.reduceSub, Nat.reduceMul, Nat.reduceEqDiff, Nat.reduceLT, Nat.reduceLeDiff, Nat.reduceBEq, reduceIte, reduceCtorEq, Int.reduceToNat, Int.reduceLE, Int.reduceLT, Int.reduceBEq, Int.reduceBNe]) | simp only [go_sem, Nat.reduceAdd, Nat.reduceSub, Nat.reduceMul, Nat.reduceEqDiff, Nat.reduceLT, Nat.reduceLeDiff, Nat.reduceBEq, reduceIte, reduceCtorEq, Int.reduceToNat, Int.reduceLE, Int.reduceLT, Int.reduceBEq, Int.reduceBNe]))
      exact Cl.fin rfl rfl
    · refine ⟨.inr ⟨rfl, rfl⟩, ?_⟩
      have hzb : (w == 0) = false := by simp; omega
      (repeat (first | (refine Cl.here ?_; simp only [go_sem, Nat.reduceAdd, Nat.reduceSub, Nat.reduceMul, Nat.reduceEqDiff, Nat.reduceLT, Nat.reduceLeDiff, Nat.reduceBEq, reduceIte, reduceCtorEq, Int.reduceToNat, Int.reduceLE, Int.reduceLT, Int.reduceBEq, Int.reduceBNe]) | simp only [go_sem, Nat.reduceAdd, Nat.reduceSub, Nat.reduceMul, Nat.reduceEqDiff, Nat.reduceLT, Nat.reduceLeDiff, Nat.reduceBEq, reduceIte, reduceCtorEq, Int.reduceToNat, Int.reduceLE, Int.reduceLT, Int.reduceBEq, Int.reduceBNe]))
      refine callD_det (mod_ok am 100000 (by omega) (by omega)) rfl rfl ?_
      simp only [go_sem, Nat.reduceAdd, Nat.reduceSub, Nat.reduceMul, Nat.reduceEqDiff, Nat.reduceLT, Nat.reduceLeDiff, Nat.reduceBEq, reduceIte, reduceCtorEq, Int.reduceToNat, Int.reduceLE, Int.reduceLT, Int.reduceBEq, Int.reduceBNe]
      refine callD_of [] [6] (by simp only [go_sem, Nat.reduceAdd, Nat.reduceSub, Nat.reduceMul, Nat.reduceEqDiff, Nat.reduceLT, Nat.reduceLeDiff, Nat.reduceBEq, reduceIte, reduceCtorEq, Int.reduceToNat, Int.reduceLE, Int.reduceLT, Int.reduceBEq, Int.reduceBNe]) (by decide) rfl (by simp only [go_sem, Nat.reduceAdd, Nat.reduceSub, Nat.reduceMul, Nat.reduceEqDiff, Nat.reduceLT, Nat.reduceLeDiff, Nat.reduceBEq, reduceIte, reduceCtorEq, Int.reduceToNat, Int.reduceLE, Int.reduceLT, Int.reduceBEq, Int.reduceBNe] <;> rfl) e4 ?_
      rintro _ _ (⟨h2, _⟩ | ⟨_, S, hS, hSp, rfl, rfl⟩)
      · rw [hsum] at h2; omega
      refine ⟨.inr ⟨rfl, by simp [flatRow, numsE_flat]⟩, ?_⟩
      have hSl : S.length = 2 := by rw [hS.length_eq]; rfl
      have hSm : ∀ x ∈ S, 0 ≤ x ∧ x < ([w0, w1].length : Nat) := fun x hx => by
        have := hS.mem_iff.1 hx
        unfold idxL at this
        obtain ⟨k, hk, rfl⟩ := List.mem_map.1 this
        rw [List.mem_range] at hk
        omega
      have hmb := miss_bd (t := mod am 100000) (ws := [w0, w1]) (s := [w0, w1].sum) rfl (by rw [hsum]; exact hz) (by simp)
      have hXs := incs_sum (P := partL (mod am 100000) [w0, w1].sum [w0, w1]) (S.take (missL (mod am 100000) [w0, w1].sum [w0, w1]).toNat) (fun i hi => by
        have := hSm i (List.mem_of_mem_take hi)
        simpa [partL] using this)
      have hXl := incs_len (partL (mod am 100000) [w0, w1].sum [w0, w1]) (S.take (missL (mod am 100000) [w0, w1].sum [w0, w1]).toNat)
      rw [List.length_take, hSl] at hXs
      have hXt : (incs (partL (mod am 100000) [w0, w1].sum [w0, w1]) (S.take (missL (mod am 100000) [w0, w1].sum [w0, w1]).toNat)).sum = mod am 100000 := by
        rw [hXs]
        have hd : missL (mod am 100000) [w0, w1].sum [w0, w1] = mod am 100000 - (partL (mod am 100000) [w0, w1].sum [w0, w1]).sum := rfl
        have h22 : ([w0, w1].length : Int) = 2 := rfl
        omega
      obtain ⟨x0, x1, hX⟩ := list_two (show (incs (partL (mod am 100000) [w0, w1].sum [w0, w1]) (S.take (missL (mod am 100000) [w0, w1].sum [w0, w1]).toNat)).length = 2 from by rw [hXl]; rfl)
      rw [hX] at hXt ⊢
      simp only [List.sum_cons, List.sum_nil] at hXt
      have wx : IntKind.i64.wrap (x0 + x1) = mod am 100000 := by rw [show x0 + x1 = mod am 100000 from by omega]; exact wrap_i64 (by omega) (by omega)
      clear hXs hXl hmb hSm hS hSp hX
      obtain ⟨u, rfl⟩ : ∃ u : Nat, w0 = u := ⟨w0.toNat, by omega⟩
      obtain ⟨v, rfl⟩ : ∃ v : Nat, w1 = v := ⟨w1.toNat, by omega⟩
      obtain ⟨s, rfl⟩ : ∃ s : Nat, w = s := ⟨w.toNat, by omega⟩
      have hA := rAdd_ok u v s (by omega) (by omega) (by omega)
      have hels : els [rtP (s : Int) (u : Int), rtP (s : Int) (v : Int)] = [[.int .i64 (u / Nat.gcd u s : Nat), .int .i64 (s / Nat.gcd u s : Nat)], [.int .i64 (v / Nat.gcd v s : Nat), .int .i64 (s / Nat.gcd v s : Nat)]] := rfl
      rw [hels]
      simp only [hnum2]
      (repeat (first | (refine Cl.here ?_; simp only [go_sem, Nat.reduceAdd, Nat.reduceSub, Nat.reduceMul, Nat.reduceEqDiff, Nat.reduceLT, Nat.reduceLeDiff, Nat.reduceBEq, reduceIte, reduceCtorEq, Int.reduceToNat, Int.reduceLE, Int.reduceLT, Int.reduceBEq, Int.reduceBNe, hzb, bne_self_eq_false]) | simp only [go_sem, Nat.reduceAdd, Nat.reduceSub, Nat.reduceMul, Nat.reduceEqDiff, Nat.reduceLT, Nat.reduceLeDiff, Nat.reduceBEq, reduceIte, reduceCtorEq, Int.reduceToNat, Int.reduceLE, Int.reduceLT, Int.reduceBEq, Int.reduceBNe, hzb, bne_self_eq_false]))
      refine callD_det hA rfl rfl ?_
      have hec : eqCells [.int .i64 1, .int .i64 1] [.int .i64 1, .int .i64 1] = true := by simp [eqCells]
      (repeat (first | (refine Cl.here ?_; simp only [go_sem, Nat.reduceAdd, Nat.reduceSub, Nat.reduceMul, Nat.reduceEqDiff, Nat.reduceLT, Nat.reduceLeDiff, Nat.reduceBEq, reduceIte, reduceCtorEq, Int.reduceToNat, Int.reduceLE, Int.reduceLT, Int.reduceBEq, Int.reduceBNe, hec, bne_self_eq_false, Bool.bne_false, wx]) | simp only [go_sem, Nat.reduceAdd, Nat.reduceSub, Nat.reduceMul, Nat.reduceEqDiff, Nat.reduceLT, Nat.reduceLeDiff, Nat.reduceBEq, reduceIte, reduceCtorEq, Int.reduceToNat, Int.reduceLE, Int.reduceLT, Int.reduceBEq, Int.reduceBNe, hec, bne_self_eq_false, Bool.bne_false, wx]))
      refine callD_det (mod_ok am 100000 (by omega) (by omega)) rfl rfl ?_
      (repeat (first | (refine Cl.here ?_; simp only [go_sem, Nat.reduceAdd, Nat.reduceSub, Nat.reduceMul, Nat.reduceEqDiff, Nat.reduceLT, Nat.reduceLeDiff, Nat.reduceBEq, reduceIte, reduceCtorEq, Int.reduceToNat, Int.reduceLE, Int.reduceLT, Int.reduceBEq, Int.reduceBNe, hbt, wx]) | simp only [go_sem, Nat.reduceAdd, Nat.reduceSub, Nat.reduceMul, Nat.reduceEqDiff, Nat.reduceLT, Nat.reduceLeDiff, Nat.reduceBEq, reduceIte, reduceCtorEq, Int.reduceToNat, Int.reduceLE, Int.reduceLT, Int.reduceBEq, Int.reduceBNe, hbt, wx]))
      refine callD_det sane_ok rfl rfl ?_
      (repeat (first | (refine Cl.here ?_; simp only [go_sem, Nat.reduceAdd, Nat.reduceSub, Nat.reduceMul, Nat.reduceEqDiff, Nat.reduceLT, Nat.reduceLeDiff, Nat.reduceBEq, reduceIte, reduceCtorEq, Int.reduceToNat, Int.reduceLE, Int.reduceLT, Int.reduceBEq, Int.reduceBNe]) | simp only [go_sem, Nat.reduceAdd, Nat.reduceSub, Nat.reduceMul, Nat.reduceEqDiff, Nat.reduceLT, Nat.reduceLeDiff, Nat.reduceBEq, reduceIte, reduceCtorEq, Int.reduceToNat, Int.reduceLE, Int.reduceLT, Int.reduceBEq, Int.reduceBNe]))
      exact Cl.fin rfl rfl

end Go.Proofs.YtlanehcihoiglaaDoor
