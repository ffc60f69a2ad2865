/- Rest: the rules; the check. -/
import Derived.Test.YtaloobgfgehhdaaGreatR6Rst4
set_option linter.unusedSimpArgs false
set_option linter.unusedVariables false
set_option linter.unusedSectionVars false
namespace Go.Proofs.YtaloobgfgehhdaaGreat
open Go Go.Abs
set_option linter.unusedSimpArgs false
set_option linter.unusedVariables false

def rrP (r : RR) : Prop := (0 ≤ r.daily ∧ r.daily ≤ 1440) ∧ (0 ≤ r.weekly ∧ r.weekly ≤ 10080) ∧ (0 ≤ r.average ∧ r.average ≤ 10080) ∧ (0 ≤ r.weeks ∧ r.weeks ≤ 52) ∧ (r.weeks = 0 ↔ r.average = 0)
theorem validR_ok (r : RR) (h : rrP r) : AFn Tryz.prog 16 [.agg r.c] [] (fun v rs => v = .int .i64 0 ∧ rs = []) := by
  refine afn Tryz.func16 a16_ok (by simp [a16]) ?_
  unfold rrP at h
  unfold RR.c
  have h1 : ¬ r.daily < 0 := by omega
  have h2 : ¬ r.daily > 1440 := by omega
  have h3 : ¬ r.weekly < 0 := by omega
  have h4 : ¬ r.weekly > 10080 := by omega
  have h5 : ¬ r.average < 0 := by omega
  have h6 : ¬ r.average > 10080 := by omega
  have h7 : ¬ r.weeks < 0 := by omega
  have h8 : ¬ r.weeks > 52 := by omega
  have h9 : (!((r.weeks == 0) == (r.average == 0))) = false := by
    have : (r.weeks == 0) = (r.average == 0) := by rw [Bool.eq_iff_iff]; simpa using h.2.2.2.2
    rw [this]; simp
  simp only [go_sem, Nat.reduceAdd, Nat.reduceSub, Nat.reduceMul, Nat.reduceEqDiff, Nat.reduceLT, Nat.reduceLeDiff, Nat.reduceBEq, reduceIte, reduceCtorEq, Int.reduceToNat, Int.reduceLE, Int.reduceLT, Int.reduceBEq, Int.reduceBNe, a16, a16r0, a16r1, a16r2, a16r3, h1, h2, h3, h4, h5, h6, h7, h8, h9]
  exact Cl.fin rfl ⟨rfl, rfl⟩
def nmNr : ByteArray := ⟨#[110, 111, 114, 109, 97, 108]⟩
def exRn : Rl := ⟨nmNr, [], []⟩
theorem exRn_ok : vR exRn = 0 := by kernel_rfl
theorem divN_ok (ws : List Wk) (he : spE ws = 0) : AFn Tryz.prog 17 [.agg [.str ⟨#[110, 111, 114, 109, 97, 108]⟩, .nils, .nils], .pure 2 (els ws)] [] (fun v rs => ∃ L : List Pc, v = .tup [.own 0 L.length 0 L.length, .int .i64 0] ∧ rs = [.live 81 4 (els L)]) := by
  have hl := (spE_zero he).1
  refine ((divide_ok exRn ws (by omega)).le (by simp [leL, le, Rl.v, exRn, nmNr, els])).mono ?_
  rintro v rs (⟨h, _⟩ | ⟨_, h, _⟩ | ⟨_, _, S, hp, _, rfl, rfl⟩)
  · exact (h exRn_ok).elim
  · exact (h he).elim
  · exact ⟨_, rfl, rfl⟩

structure ChkP (z : Zn) (r : RR) (ws : List Wk) (f t : Int) : Prop where
  z : vZ z = 0
  r : rrP r
  w : spE ws = 0
  f0 : 0 ≤ f
  f1 : f ≤ 80000
  t0 : f ≤ t
  t1 : t ≤ 80000

theorem mds_len {f t : Int} (h0 : 0 ≤ f) (h1 : f ≤ 84005) (h2 : t ≤ 84005) : (mds f t).length ≤ 20000 := by
  have hs0 : f ≤ md0 f := by unfold md0; omega
  unfold mds mdN
  rw [mdL_length]
  omega
theorem mds_bd {f t : Int} (h0 : 0 ≤ f) (h1 : f ≤ 84005) (h2 : t ≤ 84000) : ∀ m ∈ mds f t, 0 ≤ m ∧ m ≤ 83999 := by
  have hs0 : f ≤ md0 f ∧ md0 f ≤ f + 6 := by unfold md0; omega
  intro m hm
  unfold mds mdN mdL at hm
  obtain ⟨k, hk, rfl⟩ := List.mem_map.1 hm
  rw [List.mem_range] at hk
  omega
theorem len_dly {n f t : Int} {b : Bool} {e : Int} {B : List Bk} : (dly n f t b e B).length ≤ B.length := by
  have h1 : ∀ (B : List Bk) (e : Int), (rests e B).length = B.length := by
    intro B
    induction B with
    | nil => intro e; rfl
    | cons x xs ih => intro e; rw [rests, List.length_cons, List.length_cons, ih]
  unfold dly
  split
  · cases B with
    | nil => simp
    | cons x xs => exact Nat.le_trans (List.length_filter_le _ _) (by rw [h1]; simp)
  · exact Nat.le_trans (List.length_filter_le _ _) (by rw [h1]; exact Nat.le_refl _)
theorem len_wkR {z : Zn} {ms : List Int} : ∀ {S : List Iv}, (wkR z S ms).length = ms.length := by
  induction ms with
  | nil => intro S; rfl
  | cons m ms ih => intro S; rw [wkR, List.length_cons, ih, List.length_cons]

theorem checkDW_ok (z : Zn) (r : RR) (ws : List Wk) (f t : Int) (h : ChkP z r ws f t) (hd : r.daily ≠ 0) (hw : r.weekly ≠ 0) (ha : r.average = 0) : AFn Tryz.prog 10 [z.v, .agg r.c, .pure 2 (els ws), .int .i64 f, .int .i64 t] []
    (fun v rs => ∃ B D S, IsBlk ws B ∧ D.Perm (dly r.daily f t true 0 B) ∧ IsSp ws S ∧ v = .tup [.own 0 (D ++ (wkR z S (mds f t)).filter (brLt r.weekly)).length 0 (D ++ (wkR z S (mds f t)).filter (brLt r.weekly)).length, .int .i64 0] ∧ rs = [.live 40 3 (els (D ++ (wkR z S (mds f t)).filter (brLt r.weekly)))]) := by
  refine afnW Tryz.func10 a10_ok (by simp [a10]) ?_
  have hV := validZ_ok z
  rw [h.z] at hV
  have hR := validR_ok r h.r
  have hD := divN_ok ws h.w
  have hm := mondays_ok f t h.f0 (by have := h.f1; omega) (by have := h.t1; omega) (by have := h.f0; have := h.t0; omega)
  have hml := mds_len (f := f) (t := t) h.f0 (by have := h.f1; omega) (by have := h.t1; omega)
  have hmb := mds_bd (f := f) (t := t) h.f0 (by have := h.f1; omega) (by have := h.t1; omega)
  have c1 : ¬ f < 0 := by have := h.f0; omega
  have c2 : ¬ f > 84005 := by have := h.f1; omega
  have c3 : ¬ t < 0 := by have := h.f0; have := h.t0; omega
  have c4 : ¬ t > 84005 := by have := h.t1; omega
  have c5 : ¬ t < f := by have := h.t0; omega
  unfold Zn.v at *
  unfold RR.c at *
  simp only [go_sem, Nat.reduceAdd, Nat.reduceSub, Nat.reduceMul, Nat.reduceEqDiff, Nat.reduceLT, Nat.reduceLeDiff, Nat.reduceBEq, reduceIte, reduceCtorEq, Int.reduceToNat, Int.reduceLE, Int.reduceLT, Int.reduceBEq, Int.reduceBNe, a10, a10r0, a10r1, a10r2, a10r3, a10r4, a10r5, a10r6, a10r7, a10r8, a10r9, a10r10, a10r11, a10r12, a10r13, a10r14, a10r15, a10r16, a10r17, a10r18, a10r19, a10r20, a10r21, a10r22]
  (repeat (first | (refine Cl.here ?_; simp only [go_sem, Nat.reduceAdd, Nat.reduceSub, Nat.reduceMul, Nat.reduceEqDiff, Nat.reduceLT, Nat.reduceLeDiff, Nat.reduceBEq, reduceIte, reduceCtorEq, Int.reduceToNat, Int.reduceLE, Int.reduceLT, Int.reduceBEq, Int.reduceBNe]) | simp only [go_sem, Nat.reduceAdd, Nat.reduceSub, Nat.reduceMul, Nat.reduceEqDiff, Nat.reduceLT, Nat.reduceLeDiff, Nat.reduceBEq, reduceIte, reduceCtorEq, Int.reduceToNat, Int.reduceLE, Int.reduceLT, Int.reduceBEq, Int.reduceBNe]))
  refine callC_det hV rfl rfl ?_
  (repeat (first | (refine Cl.here ?_; simp only [go_sem, Nat.reduceAdd, Nat.reduceSub, Nat.reduceMul, Nat.reduceEqDiff, Nat.reduceLT, Nat.reduceLeDiff, Nat.reduceBEq, reduceIte, reduceCtorEq, Int.reduceToNat, Int.reduceLE, Int.reduceLT, Int.reduceBEq, Int.reduceBNe, bne_self_eq_false]) | simp only [go_sem, Nat.reduceAdd, Nat.reduceSub, Nat.reduceMul, Nat.reduceEqDiff, Nat.reduceLT, Nat.reduceLeDiff, Nat.reduceBEq, reduceIte, reduceCtorEq, Int.reduceToNat, Int.reduceLE, Int.reduceLT, Int.reduceBEq, Int.reduceBNe, bne_self_eq_false]))
  refine callC_det hR rfl rfl ?_
  (repeat (first | (refine Cl.here ?_; simp only [go_sem, Nat.reduceAdd, Nat.reduceSub, Nat.reduceMul, Nat.reduceEqDiff, Nat.reduceLT, Nat.reduceLeDiff, Nat.reduceBEq, reduceIte, reduceCtorEq, Int.reduceToNat, Int.reduceLE, Int.reduceLT, Int.reduceBEq, Int.reduceBNe, bne_self_eq_false, c1, c2, c3, c4, c5]) | simp only [go_sem, Nat.reduceAdd, Nat.reduceSub, Nat.reduceMul, Nat.reduceEqDiff, Nat.reduceLT, Nat.reduceLeDiff, Nat.reduceBEq, reduceIte, reduceCtorEq, Int.reduceToNat, Int.reduceLE, Int.reduceLT, Int.reduceBEq, Int.reduceBNe, bne_self_eq_false, c1, c2, c3, c4, c5]))
  (refine callC_of [] [] (by simp) rfl (bindL_clean _ (by first | rfl | simp only [go_sem, Nat.reduceAdd, Nat.reduceSub, Nat.reduceMul, Nat.reduceEqDiff, Nat.reduceLT, Nat.reduceLeDiff, Nat.reduceBEq, reduceIte, reduceCtorEq, Int.reduceToNat, Int.reduceLE, Int.reduceLT, Int.reduceBEq, Int.reduceBNe])) (hD) ?_; rintro _ _ ⟨L, rfl, rfl⟩; refine ⟨.inl rfl, ?_⟩; simp only [go_sem, Nat.reduceAdd, Nat.reduceSub, Nat.reduceMul, Nat.reduceEqDiff, Nat.reduceLT, Nat.reduceLeDiff, Nat.reduceBEq, reduceIte, reduceCtorEq, Int.reduceToNat, Int.reduceLE, Int.reduceLT, Int.reduceBEq, Int.reduceBNe])
  (repeat (first | (refine Cl.here ?_; simp only [go_sem, Nat.reduceAdd, Nat.reduceSub, Nat.reduceMul, Nat.reduceEqDiff, Nat.reduceLT, Nat.reduceLeDiff, Nat.reduceBEq, reduceIte, reduceCtorEq, Int.reduceToNat, Int.reduceLE, Int.reduceLT, Int.reduceBEq, Int.reduceBNe, bne_self_eq_false]) | simp only [go_sem, Nat.reduceAdd, Nat.reduceSub, Nat.reduceMul, Nat.reduceEqDiff, Nat.reduceLT, Nat.reduceLeDiff, Nat.reduceBEq, reduceIte, reduceCtorEq, Int.reduceToNat, Int.reduceLE, Int.reduceLT, Int.reduceBEq, Int.reduceBNe, bne_self_eq_false]))
  have hdb : (r.daily != 0) = true := by simp [hd]
  have hwb : (r.weekly != 0) = true := by simp [hw]
  have hab : (r.average != 0) = false := by simp [ha]
  simp only [go_sem, Nat.reduceAdd, Nat.reduceSub, Nat.reduceMul, Nat.reduceEqDiff, Nat.reduceLT, Nat.reduceLeDiff, Nat.reduceBEq, reduceIte, reduceCtorEq, Int.reduceToNat, Int.reduceLE, Int.reduceLT, Int.reduceBEq, Int.reduceBNe, hdb]
  (refine callC_of [] [] (by simp) rfl (bindL_clean _ (by first | rfl | simp only [go_sem, Nat.reduceAdd, Nat.reduceSub, Nat.reduceMul, Nat.reduceEqDiff, Nat.reduceLT, Nat.reduceLeDiff, Nat.reduceBEq, reduceIte, reduceCtorEq, Int.reduceToNat, Int.reduceLE, Int.reduceLT, Int.reduceBEq, Int.reduceBNe])) (daily_ok r ws h.w f t) ?_; rintro _ _ ⟨B, D, hB, hDp, rfl, rfl⟩; refine ⟨.inl rfl, ?_⟩; simp only [go_sem, Nat.reduceAdd, Nat.reduceSub, Nat.reduceMul, Nat.reduceEqDiff, Nat.reduceLT, Nat.reduceLeDiff, Nat.reduceBEq, reduceIte, reduceCtorEq, Int.reduceToNat, Int.reduceLE, Int.reduceLT, Int.reduceBEq, Int.reduceBNe])
  have hDl : D.length ≤ 100000 := by
    have h1 := hDp.length_eq
    have h2 := len_dly (n := r.daily) (f := f) (t := t) (b := true) (e := 0) (B := B)
    have h3 := (hB.bd h.w).1
    omega
  refine ⟨by omega, ?_⟩
  (refine Cl.tr [some 0, some 1, some 4] [] rfl rfl (by simp only [go_sem, Nat.reduceAdd, Nat.reduceSub, Nat.reduceMul, Nat.reduceEqDiff, Nat.reduceLT, Nat.reduceLeDiff, Nat.reduceBEq, reduceIte, reduceCtorEq, Int.reduceToNat, Int.reduceLE, Int.reduceLT, Int.reduceBEq, Int.reduceBNe] <;> rfl) ?_; simp only [go_sem, Nat.reduceAdd, Nat.reduceSub, Nat.reduceMul, Nat.reduceEqDiff, Nat.reduceLT, Nat.reduceLeDiff, Nat.reduceBEq, reduceIte, reduceCtorEq, Int.reduceToNat, Int.reduceLE, Int.reduceLT, Int.reduceBEq, Int.reduceBNe])
  (repeat (first | (refine Cl.here ?_; simp only [go_sem, Nat.reduceAdd, Nat.reduceSub, Nat.reduceMul, Nat.reduceEqDiff, Nat.reduceLT, Nat.reduceLeDiff, Nat.reduceBEq, reduceIte, reduceCtorEq, Int.reduceToNat, Int.reduceLE, Int.reduceLT, Int.reduceBEq, Int.reduceBNe]) | simp only [go_sem, Nat.reduceAdd, Nat.reduceSub, Nat.reduceMul, Nat.reduceEqDiff, Nat.reduceLT, Nat.reduceLeDiff, Nat.reduceBEq, reduceIte, reduceCtorEq, Int.reduceToNat, Int.reduceLE, Int.reduceLT, Int.reduceBEq, Int.reduceBNe]))
  (refine callC_of [] [] (by simp) rfl (bindL_clean _ (by first | rfl | simp only [go_sem, Nat.reduceAdd, Nat.reduceSub, Nat.reduceMul, Nat.reduceEqDiff, Nat.reduceLT, Nat.reduceLeDiff, Nat.reduceBEq, reduceIte, reduceCtorEq, Int.reduceToNat, Int.reduceLE, Int.reduceLT, Int.reduceBEq, Int.reduceBNe])) (hm) ?_; rintro _ _ ⟨rfl, rfl⟩; refine ⟨.inl rfl, ?_⟩; simp only [go_sem, Nat.reduceAdd, Nat.reduceSub, Nat.reduceMul, Nat.reduceEqDiff, Nat.reduceLT, Nat.reduceLeDiff, Nat.reduceBEq, reduceIte, reduceCtorEq, Int.reduceToNat, Int.reduceLE, Int.reduceLT, Int.reduceBEq, Int.reduceBNe])
  (repeat (first | (refine Cl.here ?_; simp only [go_sem, Nat.reduceAdd, Nat.reduceSub, Nat.reduceMul, Nat.reduceEqDiff, Nat.reduceLT, Nat.reduceLeDiff, Nat.reduceBEq, reduceIte, reduceCtorEq, Int.reduceToNat, Int.reduceLE, Int.reduceLT, Int.reduceBEq, Int.reduceBNe, hwb]) | simp only [go_sem, Nat.reduceAdd, Nat.reduceSub, Nat.reduceMul, Nat.reduceEqDiff, Nat.reduceLT, Nat.reduceLeDiff, Nat.reduceBEq, reduceIte, reduceCtorEq, Int.reduceToNat, Int.reduceLE, Int.reduceLT, Int.reduceBEq, Int.reduceBNe, hwb]))
  generalize hms : mds f t = ms at *
  have hwk := weekly_ok z h.z r ws h.w ms hmb hml
  unfold Zn.v RR.c at hwk
  refine callC_of [] [3] (by decide) rfl (by simp only [go_sem, Nat.reduceAdd, Nat.reduceSub, Nat.reduceMul, Nat.reduceEqDiff, Nat.reduceLT, Nat.reduceLeDiff, Nat.reduceBEq, reduceIte, reduceCtorEq, Int.reduceToNat, Int.reduceLE, Int.reduceLT, Int.reduceBEq, Int.reduceBNe] <;> rfl) hwk ?_
  rintro _ _ ⟨S, W, hS, hW, rfl, rfl⟩
  refine ⟨.inr ⟨rfl, by simp [flatRow, els_flat]⟩, ?_⟩
  simp only [go_sem, Nat.reduceAdd, Nat.reduceSub, Nat.reduceMul, Nat.reduceEqDiff, Nat.reduceLT, Nat.reduceLeDiff, Nat.reduceBEq, reduceIte, reduceCtorEq, Int.reduceToNat, Int.reduceLE, Int.reduceLT, Int.reduceBEq, Int.reduceBNe]
  have hWl : W.length ≤ 20000 := by
    rw [hW]
    exact Nat.le_trans (List.length_filter_le _ _) (by rw [len_wkR]; exact hml)
  refine ⟨by omega, ?_⟩
  (repeat (first | (refine Cl.here ?_; simp only [go_sem, Nat.reduceAdd, Nat.reduceSub, Nat.reduceMul, Nat.reduceEqDiff, Nat.reduceLT, Nat.reduceLeDiff, Nat.reduceBEq, reduceIte, reduceCtorEq, Int.reduceToNat, Int.reduceLE, Int.reduceLT, Int.reduceBEq, Int.reduceBNe, hab]) | simp only [go_sem, Nat.reduceAdd, Nat.reduceSub, Nat.reduceMul, Nat.reduceEqDiff, Nat.reduceLT, Nat.reduceLeDiff, Nat.reduceBEq, reduceIte, reduceCtorEq, Int.reduceToNat, Int.reduceLE, Int.reduceLT, Int.reduceBEq, Int.reduceBNe, hab]))
  rw [show D.length + W.length = (D ++ W).length from by simp]
  rw [hW] at *
  (refine Cl.tr [some 2] [] rfl rfl (by simp only [go_sem, Nat.reduceAdd, Nat.reduceSub, Nat.reduceMul, Nat.reduceEqDiff, Nat.reduceLT, Nat.reduceLeDiff, Nat.reduceBEq, reduceIte, reduceCtorEq, Int.reduceToNat, Int.reduceLE, Int.reduceLT, Int.reduceBEq, Int.reduceBNe] <;> rfl) ?_; simp only [go_sem, Nat.reduceAdd, Nat.reduceSub, Nat.reduceMul, Nat.reduceEqDiff, Nat.reduceLT, Nat.reduceLeDiff, Nat.reduceBEq, reduceIte, reduceCtorEq, Int.reduceToNat, Int.reduceLE, Int.reduceLT, Int.reduceBEq, Int.reduceBNe])
  exact Cl.here ⟨B, D, S, hB, hDp, hS, rfl, rfl⟩

theorem checkD_ok (z : Zn) (r : RR) (ws : List Wk) (f t : Int) (h : ChkP z r ws f t) (hd : r.daily ≠ 0) (hw : r.weekly = 0) (ha : r.average = 0) : AFn Tryz.prog 10 [z.v, .agg r.c, .pure 2 (els ws), .int .i64 f, .int .i64 t] []
    (fun v rs => ∃ B D, IsBlk ws B ∧ D.Perm (dly r.daily f t true 0 B) ∧ v = .tup [.own 0 D.length 0 D.length, .int .i64 0] ∧ rs = [.live 40 3 (els D)]) := by
  refine afnW Tryz.func10 a10_ok (by simp [a10]) ?_
  have hV := validZ_ok z
  rw [h.z] at hV
  have hR := validR_ok r h.r
  have hD := divN_ok ws h.w
  have hm := mondays_ok f t h.f0 (by have := h.f1; omega) (by have := h.t1; omega) (by have := h.f0; have := h.t0; omega)
  have hml := mds_len (f := f) (t := t) h.f0 (by have := h.f1; omega) (by have := h.t1; omega)
  have hmb := mds_bd (f := f) (t := t) h.f0 (by have := h.f1; omega) (by have := h.t1; omega)
  have c1 : ¬ f < 0 := by have := h.f0; omega
  have c2 : ¬ f > 84005 := by have := h.f1; omega
  have c3 : ¬ t < 0 := by have := h.f0; have := h.t0; omega
  have c4 : ¬ t > 84005 := by have := h.t1; omega
  have c5 : ¬ t < f := by have := h.t0; omega
  unfold Zn.v at *
  unfold RR.c at *
  simp only [go_sem, Nat.reduceAdd, Nat.reduceSub, Nat.reduceMul, Nat.reduceEqDiff, Nat.reduceLT, Nat.reduceLeDiff, Nat.reduceBEq, reduceIte, reduceCtorEq, Int.reduceToNat, Int.reduceLE, Int.reduceLT, Int.reduceBEq, Int.reduceBNe, a10, a10r0, a10r1, a10r2, a10r3, a10r4, a10r5, a10r6, a10r7, a10r8, a10r9, a10r10, a10r11, a10r12, a10r13, a10r14, a10r15, a10r16, a10r17, a10r18, a10r19, a10r20, a10r21, a10r22]
  (repeat (first | (refine Cl.here ?_; simp only [go_sem, Nat.reduceAdd, Nat.reduceSub, Nat.reduceMul, Nat.reduceEqDiff, Nat.reduceLT, Nat.reduceLeDiff, Nat.reduceBEq, reduceIte, reduceCtorEq, Int.reduceToNat, Int.reduceLE, Int.reduceLT, Int.reduceBEq, Int.reduceBNe]) | simp only [go_sem, Nat.reduceAdd, Nat.reduceSub, Nat.reduceMul, Nat.reduceEqDiff, Nat.reduceLT, Nat.reduceLeDiff, Nat.reduceBEq, reduceIte, reduceCtorEq, Int.reduceToNat, Int.reduceLE, Int.reduceLT, Int.reduceBEq, Int.reduceBNe]))
  refine callC_det hV rfl rfl ?_
  (repeat (first | (refine Cl.here ?_; simp only [go_sem, Nat.reduceAdd, Nat.reduceSub, Nat.reduceMul, Nat.reduceEqDiff, Nat.reduceLT, Nat.reduceLeDiff, Nat.reduceBEq, reduceIte, reduceCtorEq, Int.reduceToNat, Int.reduceLE, Int.reduceLT, Int.reduceBEq, Int.reduceBNe, bne_self_eq_false]) | simp only [go_sem, Nat.reduceAdd, Nat.reduceSub, Nat.reduceMul, Nat.reduceEqDiff, Nat.reduceLT, Nat.reduceLeDiff, Nat.reduceBEq, reduceIte, reduceCtorEq, Int.reduceToNat, Int.reduceLE, Int.reduceLT, Int.reduceBEq, Int.reduceBNe, bne_self_eq_false]))
  refine callC_det hR rfl rfl ?_
  (repeat (first | (refine Cl.here ?_; simp only [go_sem, Nat.reduceAdd, Nat.reduceSub, Nat.reduceMul, Nat.reduceEqDiff, Nat.reduceLT, Nat.reduceLeDiff, Nat.reduceBEq, reduceIte, reduceCtorEq, Int.reduceToNat, Int.reduceLE, Int.reduceLT, Int.reduceBEq, Int.reduceBNe, bne_self_eq_false, c1, c2, c3, c4, c5]) | simp only [go_sem, Nat.reduceAdd, Nat.reduceSub, Nat.reduceMul, Nat.reduceEqDiff, Nat.reduceLT, Nat.reduceLeDiff, Nat.reduceBEq, reduceIte, reduceCtorEq, Int.reduceToNat, Int.reduceLE, Int.reduceLT, Int.reduceBEq, Int.reduceBNe, bne_self_eq_false, c1, c2, c3, c4, c5]))
  (refine callC_of [] [] (by simp) rfl (bindL_clean _ (by first | rfl | simp only [go_sem, Nat.reduceAdd, Nat.reduceSub, Nat.reduceMul, Nat.reduceEqDiff, Nat.reduceLT, Nat.reduceLeDiff, Nat.reduceBEq, reduceIte, reduceCtorEq, Int.reduceToNat, Int.reduceLE, Int.reduceLT, Int.reduceBEq, Int.reduceBNe])) (hD) ?_; rintro _ _ ⟨L, rfl, rfl⟩; refine ⟨.inl rfl, ?_⟩; simp only [go_sem, Nat.reduceAdd, Nat.reduceSub, Nat.reduceMul, Nat.reduceEqDiff, Nat.reduceLT, Nat.reduceLeDiff, Nat.reduceBEq, reduceIte, reduceCtorEq, Int.reduceToNat, Int.reduceLE, Int.reduceLT, Int.reduceBEq, Int.reduceBNe])
  (repeat (first | (refine Cl.here ?_; simp only [go_sem, Nat.reduceAdd, Nat.reduceSub, Nat.reduceMul, Nat.reduceEqDiff, Nat.reduceLT, Nat.reduceLeDiff, Nat.reduceBEq, reduceIte, reduceCtorEq, Int.reduceToNat, Int.reduceLE, Int.reduceLT, Int.reduceBEq, Int.reduceBNe, bne_self_eq_false]) | simp only [go_sem, Nat.reduceAdd, Nat.reduceSub, Nat.reduceMul, Nat.reduceEqDiff, Nat.reduceLT, Nat.reduceLeDiff, Nat.reduceBEq, reduceIte, reduceCtorEq, Int.reduceToNat, Int.reduceLE, Int.reduceLT, Int.reduceBEq, Int.reduceBNe, bne_self_eq_false]))
  have hdb : (r.daily != 0) = true := by simp [hd]
  have hwb : (r.weekly != 0) = false := by simp [hw]
  have hab : (r.average != 0) = false := by simp [ha]
  simp only [go_sem, Nat.reduceAdd, Nat.reduceSub, Nat.reduceMul, Nat.reduceEqDiff, Nat.reduceLT, Nat.reduceLeDiff, Nat.reduceBEq, reduceIte, reduceCtorEq, Int.reduceToNat, Int.reduceLE, Int.reduceLT, Int.reduceBEq, Int.reduceBNe, hdb]
  (refine callC_of [] [] (by simp) rfl (bindL_clean _ (by first | rfl | simp only [go_sem, Nat.reduceAdd, Nat.reduceSub, Nat.reduceMul, Nat.reduceEqDiff, Nat.reduceLT, Nat.reduceLeDiff, Nat.reduceBEq, reduceIte, reduceCtorEq, Int.reduceToNat, Int.reduceLE, Int.reduceLT, Int.reduceBEq, Int.reduceBNe])) (daily_ok r ws h.w f t) ?_; rintro _ _ ⟨B, D, hB, hDp, rfl, rfl⟩; refine ⟨.inl rfl, ?_⟩; simp only [go_sem, Nat.reduceAdd, Nat.reduceSub, Nat.reduceMul, Nat.reduceEqDiff, Nat.reduceLT, Nat.reduceLeDiff, Nat.reduceBEq, reduceIte, reduceCtorEq, Int.reduceToNat, Int.reduceLE, Int.reduceLT, Int.reduceBEq, Int.reduceBNe])
  have hDl : D.length ≤ 100000 := by
    have h1 := hDp.length_eq
    have h2 := len_dly (n := r.daily) (f := f) (t := t) (b := true) (e := 0) (B := B)
    have h3 := (hB.bd h.w).1
    omega
  refine ⟨by omega, ?_⟩
  (refine Cl.tr [some 0, some 1, some 4] [] rfl rfl (by simp only [go_sem, Nat.reduceAdd, Nat.reduceSub, Nat.reduceMul, Nat.reduceEqDiff, Nat.reduceLT, Nat.reduceLeDiff, Nat.reduceBEq, reduceIte, reduceCtorEq, Int.reduceToNat, Int.reduceLE, Int.reduceLT, Int.reduceBEq, Int.reduceBNe] <;> rfl) ?_; simp only [go_sem, Nat.reduceAdd, Nat.reduceSub, Nat.reduceMul, Nat.reduceEqDiff, Nat.reduceLT, Nat.reduceLeDiff, Nat.reduceBEq, reduceIte, reduceCtorEq, Int.reduceToNat, Int.reduceLE, Int.reduceLT, Int.reduceBEq, Int.reduceBNe])
  (repeat (first | (refine Cl.here ?_; simp only [go_sem, Nat.reduceAdd, Nat.reduceSub, Nat.reduceMul, Nat.reduceEqDiff, Nat.reduceLT, Nat.reduceLeDiff, Nat.reduceBEq, reduceIte, reduceCtorEq, Int.reduceToNat, Int.reduceLE, Int.reduceLT, Int.reduceBEq, Int.reduceBNe]) | simp only [go_sem, Nat.reduceAdd, Nat.reduceSub, Nat.reduceMul, Nat.reduceEqDiff, Nat.reduceLT, Nat.reduceLeDiff, Nat.reduceBEq, reduceIte, reduceCtorEq, Int.reduceToNat, Int.reduceLE, Int.reduceLT, Int.reduceBEq, Int.reduceBNe]))
  (refine callC_of [] [] (by simp) rfl (bindL_clean _ (by first | rfl | simp only [go_sem, Nat.reduceAdd, Nat.reduceSub, Nat.reduceMul, Nat.reduceEqDiff, Nat.reduceLT, Nat.reduceLeDiff, Nat.reduceBEq, reduceIte, reduceCtorEq, Int.reduceToNat, Int.reduceLE, Int.reduceLT, Int.reduceBEq, Int.reduceBNe])) (hm) ?_; rintro _ _ ⟨rfl, rfl⟩; refine ⟨.inl rfl, ?_⟩; simp only [go_sem, Nat.reduceAdd, Nat.reduceSub, Nat.reduceMul, Nat.reduceEqDiff, Nat.reduceLT, Nat.reduceLeDiff, Nat.reduceBEq, reduceIte, reduceCtorEq, Int.reduceToNat, Int.reduceLE, Int.reduceLT, Int.reduceBEq, Int.reduceBNe])
  (repeat (first | (refine Cl.here ?_; simp only [go_sem, Nat.reduceAdd, Nat.reduceSub, Nat.reduceMul, Nat.reduceEqDiff, Nat.reduceLT, Nat.reduceLeDiff, Nat.reduceBEq, reduceIte, reduceCtorEq, Int.reduceToNat, Int.reduceLE, Int.reduceLT, Int.reduceBEq, Int.reduceBNe, hwb, hab]) | simp only [go_sem, Nat.reduceAdd, Nat.reduceSub, Nat.reduceMul, Nat.reduceEqDiff, Nat.reduceLT, Nat.reduceLeDiff, Nat.reduceBEq, reduceIte, reduceCtorEq, Int.reduceToNat, Int.reduceLE, Int.reduceLT, Int.reduceBEq, Int.reduceBNe, hwb, hab]))
  (refine Cl.tr [some 2] [] rfl rfl (by simp only [go_sem, Nat.reduceAdd, Nat.reduceSub, Nat.reduceMul, Nat.reduceEqDiff, Nat.reduceLT, Nat.reduceLeDiff, Nat.reduceBEq, reduceIte, reduceCtorEq, Int.reduceToNat, Int.reduceLE, Int.reduceLT, Int.reduceBEq, Int.reduceBNe] <;> rfl) ?_; simp only [go_sem, Nat.reduceAdd, Nat.reduceSub, Nat.reduceMul, Nat.reduceEqDiff, Nat.reduceLT, Nat.reduceLeDiff, Nat.reduceBEq, reduceIte, reduceCtorEq, Int.reduceToNat, Int.reduceLE, Int.reduceLT, Int.reduceBEq, Int.reduceBNe])
  exact Cl.here ⟨B, D, hB, hDp, rfl, rfl⟩

theorem checkA_ok (z : Zn) (r : RR) (ws : List Wk) (f t : Int) (h : ChkP z r ws f t) (hd : r.daily = 0) (hw : r.weekly = 0) (ha : r.average ≠ 0) (hk : r.weeks = 1) : AFn Tryz.prog 10 [z.v, .agg r.c, .pure 2 (els ws), .int .i64 f, .int .i64 t] []
    (fun v rs => ∃ W, W = (avs ws (mds f t)).filter (brGt r.average) ∧ v = .tup [.own 0 W.length 0 W.length, .int .i64 0] ∧ rs = [.live 40 3 (els W)]) := by
  refine afnW Tryz.func10 a10_ok (by simp [a10]) ?_
  have hV := validZ_ok z
  rw [h.z] at hV
  have hR := validR_ok r h.r
  have hD := divN_ok ws h.w
  have hm := mondays_ok f t h.f0 (by have := h.f1; omega) (by have := h.t1; omega) (by have := h.f0; have := h.t0; omega)
  have hml := mds_len (f := f) (t := t) h.f0 (by have := h.f1; omega) (by have := h.t1; omega)
  have hmb := mds_bd (f := f) (t := t) h.f0 (by have := h.f1; omega) (by have := h.t1; omega)
  have c1 : ¬ f < 0 := by have := h.f0; omega
  have c2 : ¬ f > 84005 := by have := h.f1; omega
  have c3 : ¬ t < 0 := by have := h.f0; have := h.t0; omega
  have c4 : ¬ t > 84005 := by have := h.t1; omega
  have c5 : ¬ t < f := by have := h.t0; omega
  unfold Zn.v at *
  unfold RR.c at *
  simp only [go_sem, Nat.reduceAdd, Nat.reduceSub, Nat.reduceMul, Nat.reduceEqDiff, Nat.reduceLT, Nat.reduceLeDiff, Nat.reduceBEq, reduceIte, reduceCtorEq, Int.reduceToNat, Int.reduceLE, Int.reduceLT, Int.reduceBEq, Int.reduceBNe, a10, a10r0, a10r1, a10r2, a10r3, a10r4, a10r5, a10r6, a10r7, a10r8, a10r9, a10r10, a10r11, a10r12, a10r13, a10r14, a10r15, a10r16, a10r17, a10r18, a10r19, a10r20, a10r21, a10r22]
  (repeat (first | (refine Cl.here ?_; simp only [go_sem, Nat.reduceAdd, Nat.reduceSub, Nat.reduceMul, Nat.reduceEqDiff, Nat.reduceLT, Nat.reduceLeDiff, Nat.reduceBEq, reduceIte, reduceCtorEq, Int.reduceToNat, Int.reduceLE, Int.reduceLT, Int.reduceBEq, Int.reduceBNe]) | simp only [go_sem, Nat.reduceAdd, Nat.reduceSub, Nat.reduceMul, Nat.reduceEqDiff, Nat.reduceLT, Nat.reduceLeDiff, Nat.reduceBEq, reduceIte, reduceCtorEq, Int.reduceToNat, Int.reduceLE, Int.reduceLT, Int.reduceBEq, Int.reduceBNe]))
  refine callC_det hV rfl rfl ?_
  (repeat (first | (refine Cl.here ?_; simp only [go_sem, Nat.reduceAdd, Nat.reduceSub, Nat.reduceMul, Nat.reduceEqDiff, Nat.reduceLT, Nat.reduceLeDiff, Nat.reduceBEq, reduceIte, reduceCtorEq, Int.reduceToNat, Int.reduceLE, Int.reduceLT, Int.reduceBEq, Int.reduceBNe, bne_self_eq_false]) | simp only [go_sem, Nat.reduceAdd, Nat.reduceSub, Nat.reduceMul, Nat.reduceEqDiff, Nat.reduceLT, Nat.reduceLeDiff, Nat.reduceBEq, reduceIte, reduceCtorEq, Int.reduceToNat, Int.reduceLE, Int.reduceLT, Int.reduceBEq, Int.reduceBNe, bne_self_eq_false]))
  refine callC_det hR rfl rfl ?_
  (repeat (first | (refine Cl.here ?_; simp only [go_sem, Nat.reduceAdd, Nat.reduceSub, Nat.reduceMul, Nat.reduceEqDiff, Nat.reduceLT, Nat.reduceLeDiff, Nat.reduceBEq, reduceIte, reduceCtorEq, Int.reduceToNat, Int.reduceLE, Int.reduceLT, Int.reduceBEq, Int.reduceBNe, bne_self_eq_false, c1, c2, c3, c4, c5]) | simp only [go_sem, Nat.reduceAdd, Nat.reduceSub, Nat.reduceMul, Nat.reduceEqDiff, Nat.reduceLT, Nat.reduceLeDiff, Nat.reduceBEq, reduceIte, reduceCtorEq, Int.reduceToNat, Int.reduceLE, Int.reduceLT, Int.reduceBEq, Int.reduceBNe, bne_self_eq_false, c1, c2, c3, c4, c5]))
  (refine callC_of [] [] (by simp) rfl (bindL_clean _ (by first | rfl | simp only [go_sem, Nat.reduceAdd, Nat.reduceSub, Nat.reduceMul, Nat.reduceEqDiff, Nat.reduceLT, Nat.reduceLeDiff, Nat.reduceBEq, reduceIte, reduceCtorEq, Int.reduceToNat, Int.reduceLE, Int.reduceLT, Int.reduceBEq, Int.reduceBNe])) (hD) ?_; rintro _ _ ⟨L, rfl, rfl⟩; refine ⟨.inl rfl, ?_⟩; simp only [go_sem, Nat.reduceAdd, Nat.reduceSub, Nat.reduceMul, Nat.reduceEqDiff, Nat.reduceLT, Nat.reduceLeDiff, Nat.reduceBEq, reduceIte, reduceCtorEq, Int.reduceToNat, Int.reduceLE, Int.reduceLT, Int.reduceBEq, Int.reduceBNe])
  (repeat (first | (refine Cl.here ?_; simp only [go_sem, Nat.reduceAdd, Nat.reduceSub, Nat.reduceMul, Nat.reduceEqDiff, Nat.reduceLT, Nat.reduceLeDiff, Nat.reduceBEq, reduceIte, reduceCtorEq, Int.reduceToNat, Int.reduceLE, Int.reduceLT, Int.reduceBEq, Int.reduceBNe, bne_self_eq_false]) | simp only [go_sem, Nat.reduceAdd, Nat.reduceSub, Nat.reduceMul, Nat.reduceEqDiff, Nat.reduceLT, Nat.reduceLeDiff, Nat.reduceBEq, reduceIte, reduceCtorEq, Int.reduceToNat, Int.reduceLE, Int.reduceLT, Int.reduceBEq, Int.reduceBNe, bne_self_eq_false]))
  have hdb : (r.daily != 0) = false := by simp [hd]
  have hwb : (r.weekly != 0) = false := by simp [hw]
  have hab : (r.average != 0) = true := by simp [ha]
  (repeat (first | (refine Cl.here ?_; simp only [go_sem, Nat.reduceAdd, Nat.reduceSub, Nat.reduceMul, Nat.reduceEqDiff, Nat.reduceLT, Nat.reduceLeDiff, Nat.reduceBEq, reduceIte, reduceCtorEq, Int.reduceToNat, Int.reduceLE, Int.reduceLT, Int.reduceBEq, Int.reduceBNe, hdb]) | simp only [go_sem, Nat.reduceAdd, Nat.reduceSub, Nat.reduceMul, Nat.reduceEqDiff, Nat.reduceLT, Nat.reduceLeDiff, Nat.reduceBEq, reduceIte, reduceCtorEq, Int.reduceToNat, Int.reduceLE, Int.reduceLT, Int.reduceBEq, Int.reduceBNe, hdb]))
  (refine callC_of [] [] (by simp) rfl (bindL_clean _ (by first | rfl | simp only [go_sem, Nat.reduceAdd, Nat.reduceSub, Nat.reduceMul, Nat.reduceEqDiff, Nat.reduceLT, Nat.reduceLeDiff, Nat.reduceBEq, reduceIte, reduceCtorEq, Int.reduceToNat, Int.reduceLE, Int.reduceLT, Int.reduceBEq, Int.reduceBNe])) (hm) ?_; rintro _ _ ⟨rfl, rfl⟩; refine ⟨.inl rfl, ?_⟩; simp only [go_sem, Nat.reduceAdd, Nat.reduceSub, Nat.reduceMul, Nat.reduceEqDiff, Nat.reduceLT, Nat.reduceLeDiff, Nat.reduceBEq, reduceIte, reduceCtorEq, Int.reduceToNat, Int.reduceLE, Int.reduceLT, Int.reduceBEq, Int.reduceBNe])
  (repeat (first | (refine Cl.here ?_; simp only [go_sem, Nat.reduceAdd, Nat.reduceSub, Nat.reduceMul, Nat.reduceEqDiff, Nat.reduceLT, Nat.reduceLeDiff, Nat.reduceBEq, reduceIte, reduceCtorEq, Int.reduceToNat, Int.reduceLE, Int.reduceLT, Int.reduceBEq, Int.reduceBNe, hwb, hab]) | simp only [go_sem, Nat.reduceAdd, Nat.reduceSub, Nat.reduceMul, Nat.reduceEqDiff, Nat.reduceLT, Nat.reduceLeDiff, Nat.reduceBEq, reduceIte, reduceCtorEq, Int.reduceToNat, Int.reduceLE, Int.reduceLT, Int.reduceBEq, Int.reduceBNe, hwb, hab]))
  generalize hms : mds f t = ms at *
  have hav := average_ok r hk h.r.2.2.1 ws h.w ms hml
  unfold RR.c at hav
  refine callC_of [] [3] (by decide) rfl (by simp only [go_sem, Nat.reduceAdd, Nat.reduceSub, Nat.reduceMul, Nat.reduceEqDiff, Nat.reduceLT, Nat.reduceLeDiff, Nat.reduceBEq, reduceIte, reduceCtorEq, Int.reduceToNat, Int.reduceLE, Int.reduceLT, Int.reduceBEq, Int.reduceBNe] <;> rfl) hav ?_
  rintro _ _ ⟨W, hW, rfl, rfl⟩
  refine ⟨.inr ⟨rfl, by simp [flatRow, els_flat]⟩, ?_⟩
  simp only [go_sem, Nat.reduceAdd, Nat.reduceSub, Nat.reduceMul, Nat.reduceEqDiff, Nat.reduceLT, Nat.reduceLeDiff, Nat.reduceBEq, reduceIte, reduceCtorEq, Int.reduceToNat, Int.reduceLE, Int.reduceLT, Int.reduceBEq, Int.reduceBNe]
  have hWl : W.length ≤ 20000 := by
    rw [hW, avs]
    exact Nat.le_trans (List.length_filter_le _ _) (by rw [List.length_map]; exact hml)
  refine ⟨by omega, ?_⟩
  (repeat (first | (refine Cl.here ?_; simp only [go_sem, Nat.reduceAdd, Nat.reduceSub, Nat.reduceMul, Nat.reduceEqDiff, Nat.reduceLT, Nat.reduceLeDiff, Nat.reduceBEq, reduceIte, reduceCtorEq, Int.reduceToNat, Int.reduceLE, Int.reduceLT, Int.reduceBEq, Int.reduceBNe]) | simp only [go_sem, Nat.reduceAdd, Nat.reduceSub, Nat.reduceMul, Nat.reduceEqDiff, Nat.reduceLT, Nat.reduceLeDiff, Nat.reduceBEq, reduceIte, reduceCtorEq, Int.reduceToNat, Int.reduceLE, Int.reduceLT, Int.reduceBEq, Int.reduceBNe]))
  (refine Cl.tr [some 5] [] rfl rfl (by simp only [go_sem, Nat.reduceAdd, Nat.reduceSub, Nat.reduceMul, Nat.reduceEqDiff, Nat.reduceLT, Nat.reduceLeDiff, Nat.reduceBEq, reduceIte, reduceCtorEq, Int.reduceToNat, Int.reduceLE, Int.reduceLT, Int.reduceBEq, Int.reduceBNe] <;> rfl) ?_; simp only [go_sem, Nat.reduceAdd, Nat.reduceSub, Nat.reduceMul, Nat.reduceEqDiff, Nat.reduceLT, Nat.reduceLeDiff, Nat.reduceBEq, reduceIte, reduceCtorEq, Int.reduceToNat, Int.reduceLE, Int.reduceLT, Int.reduceBEq, Int.reduceBNe])
  exact Cl.here ⟨W, hW, rfl, rfl⟩

end Go.Proofs.YtaloobgfgehhdaaGreat
