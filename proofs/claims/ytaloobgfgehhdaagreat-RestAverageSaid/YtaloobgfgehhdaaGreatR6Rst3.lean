/- Rest: the Mondays of a range; the longest rest; the breaches of the weekly rest. -/
import Derived.Test.YtaloobgfgehhdaaGreatR6Rst2
set_option linter.unusedSimpArgs false
set_option linter.unusedVariables false
set_option linter.unusedSectionVars false
namespace Go.Proofs.YtaloobgfgehhdaaGreat
open Go Go.Abs
set_option linter.unusedSimpArgs false
set_option linter.unusedVariables false

def md0 (f : Int) : Int := f + (7 - (f + 3) % 7) % 7
def mdN (f t : Int) : Nat := ((t - 6 - md0 f) / 7 + 1).toNat
def mdL (s : Int) (n : Nat) : List Int := (List.range n).map fun k : Nat => s + 7 * (k : Int)
def mds (f t : Int) : List Int := mdL (md0 f) (mdN f t)
theorem mdL_succ {s : Int} {n : Nat} : mdL s (n + 1) = mdL s n ++ [s + 7 * (n : Int)] := by simp [mdL, List.range_succ]
theorem mdL_length {s : Int} {n : Nat} : (mdL s n).length = n := by simp [mdL]

theorem mondays_ok (f t : Int) (h0 : 0 ≤ f) (h1 : f ≤ 84005) (h2 : t ≤ 84005) (h3 : 0 ≤ t) : AFn Tryz.prog 19 [.int .i64 f, .int .i64 t] [] (fun v rs => v = .own 0 (mds f t).length 0 (mds f t).length ∧ rs = [.live 3 1 (numsE .i64 (mds f t))]) := by
  refine afn Tryz.func19 a19_ok (by simp [a19]) ?_
  simp only [go_sem, Nat.reduceAdd, Nat.reduceSub, Nat.reduceMul, Nat.reduceEqDiff, Nat.reduceLT, Nat.reduceLeDiff, Nat.reduceBEq, reduceIte, reduceCtorEq, Int.reduceToNat, Int.reduceLE, Int.reduceLT, Int.reduceBEq, Int.reduceBNe, a19, a19r0, a19r1, a19r2, a19r3, a19r4, a19r5, a19r6]
  refine callC_det (weekday_ok f h0 h1) rfl rfl ?_
  simp only [go_sem, Nat.reduceAdd, Nat.reduceSub, Nat.reduceMul, Nat.reduceEqDiff, Nat.reduceLT, Nat.reduceLeDiff, Nat.reduceBEq, reduceIte, reduceCtorEq, Int.reduceToNat, Int.reduceLE, Int.reduceLT, Int.reduceBEq, Int.reduceBNe]
  refine ⟨by decide, ?_⟩
  have hm : 0 ≤ (f + 3) % 7 ∧ (f + 3) % 7 < 7 := by omega
  rw [wrap_i64 (x := 7 - (f + 3) % 7) (by omega) (by omega), Int.tmod_eq_emod_of_nonneg (a := 7 - (f + 3) % 7) (by omega), wrap_i64 (x := f + (7 - (f + 3) % 7) % 7) (by omega) (by omega)]
  have hs : ∃ s, s = md0 f ∧ f ≤ s ∧ s ≤ f + 6 := ⟨_, rfl, by unfold md0; omega, by unfold md0; omega⟩
  obtain ⟨s, hs, hs0, hs1⟩ := hs
  have hs' : f + (7 - (f + 3) % 7) % 7 = s := by rw [hs, md0]
  rw [hs']
  have hN : mds f t = mdL s ((t - 6 - s) / 7 + 1).toNat := by rw [mds, mdN, ← hs]
  rw [hN]
  generalize hn : ((t - 6 - s) / 7 + 1).toNat = n
  have hn1 : ∀ k : Nat, (s + 7 * (k : Int) + 6 ≤ t) ↔ k < n := fun k => by omega
  have hn2 : n ≤ 20000 := by omega
  refine avc_loop (fun env rows => ∃ k : Nat, k ≤ n ∧ env = [(1, .int .i64 t), (5, .own 0 k 0 k), (6, .int .i64 (s + 7 * (k : Int)))] ∧ rows = [.live 3 1 (numsE .i64 (mdL s k))])
    (fun env _ => match slot env 6 with | .int _ j => (t - j).toNat | _ => 0) ?_ ?_
  · (refine Cl.ghost 5  3  1 rfl (Cl.norm [ 1, 5, 6] ?_); simp only [go_sem, Nat.reduceAdd, Nat.reduceSub, Nat.reduceMul, Nat.reduceEqDiff, Nat.reduceLT, Nat.reduceLeDiff, Nat.reduceBEq, reduceIte, reduceCtorEq, Int.reduceToNat, Int.reduceLE, Int.reduceLT, Int.reduceBEq, Int.reduceBNe])
    exact Cl.here ⟨0, by omega, by simp, rfl⟩
  · rintro env rows ⟨k, hk, rfl, rfl⟩
    simp only [go_sem, Nat.reduceAdd, Nat.reduceSub, Nat.reduceMul, Nat.reduceEqDiff, Nat.reduceLT, Nat.reduceLeDiff, Nat.reduceBEq, reduceIte, reduceCtorEq, Int.reduceToNat, Int.reduceLE, Int.reduceLT, Int.reduceBEq, Int.reduceBNe, a19, a19r0, a19r1, a19r2, a19r3, a19r4, a19r5, a19r6]
    rw [wrap_i64 (x := s + 7 * (k : Int) + 6) (by omega) (by omega)]
    have hk1 := hn1 k
    refine condC_intro ?_ ?_ <;> intro hg2 <;> simp only [decide_eq_true_eq, decide_eq_false_iff_not, beq_iff_eq, beq_eq_false_iff_ne, bne_iff_ne, bne_eq_false_iff_eq, Bool.not_eq_true', Bool.not_eq_false', Int.not_lt, Int.not_le, ne_eq, Bool.and_eq_true, Bool.or_eq_true, Bool.or_eq_false_iff, Bool.and_eq_false_iff] at hg2 <;> simp only [go_sem, Nat.reduceAdd, Nat.reduceSub, Nat.reduceMul, Nat.reduceEqDiff, Nat.reduceLT, Nat.reduceLeDiff, Nat.reduceBEq, reduceIte, reduceCtorEq, Int.reduceToNat, Int.reduceLE, Int.reduceLT, Int.reduceBEq, Int.reduceBNe, a19, a19r0, a19r1, a19r2, a19r3, a19r4, a19r5, a19r6]
    · refine ⟨mdL_length.symm, by omega, ?_⟩
      rw [wrap_i64 (x := s + 7 * (k : Int) + 7) (by omega) (by omega), ← mdL_succ]
      (refine Cl.tr [some 0] [] rfl rfl (by simp only [go_sem, Nat.reduceAdd, Nat.reduceSub, Nat.reduceMul, Nat.reduceEqDiff, Nat.reduceLT, Nat.reduceLeDiff, Nat.reduceBEq, reduceIte, reduceCtorEq, Int.reduceToNat, Int.reduceLE, Int.reduceLT, Int.reduceBEq, Int.reduceBNe] <;> rfl) ?_; simp only [go_sem, Nat.reduceAdd, Nat.reduceSub, Nat.reduceMul, Nat.reduceEqDiff, Nat.reduceLT, Nat.reduceLeDiff, Nat.reduceBEq, reduceIte, reduceCtorEq, Int.reduceToNat, Int.reduceLE, Int.reduceLT, Int.reduceBEq, Int.reduceBNe])
      refine Cl.here ⟨⟨k + 1, by omega, ?_, rfl⟩, ?_⟩
      · rw [show s + 7 * ((k + 1 : Nat) : Int) = s + 7 * (k : Int) + 7 from by omega]
      · simp only [go_sem, Nat.reduceAdd, Nat.reduceSub, Nat.reduceMul, Nat.reduceEqDiff, Nat.reduceLT, Nat.reduceLeDiff, Nat.reduceBEq, reduceIte, reduceCtorEq, Int.reduceToNat, Int.reduceLE, Int.reduceLT, Int.reduceBEq, Int.reduceBNe]
        omega
    · obtain rfl : k = n := by omega
      rw [mdL_length]
      exact Cl.here ⟨rfl, rfl⟩

/-- the longest rest from a on, before e -/
def lng : Int → Int → Int → List Iv → Int
  | r, a, e, [] => max r (e - a)
  | r, a, e, v :: vs => if e ≤ v.fr then max r (e - a) else lng (max r (v.fr - a)) (max a v.to) e vs
theorem lng_drop {r a e : Int} {l : List Iv} {i : Nat} (h : i < l.length) : lng r a e (l.drop i) = if e ≤ l[i].fr then max r (e - a) else lng (max r (l[i].fr - a)) (max a l[i].to) e (l.drop (i + 1)) := by
  rw [List.drop_eq_getElem_cons h, lng]
theorem longest_ok (T : List Iv) (hT : ∀ v ∈ T, ivP v.fr v.to) (hTl : T.length ≤ 100000000) (b e : Int) (hb : 0 ≤ b) (hb1 : b ≤ 120968640) (he : 0 ≤ e) (he1 : e ≤ 120968640) : AFn Tryz.prog 36 [.pure 2 (els T), .int .i64 b, .int .i64 e] [] (fun v rs => v = .int .i64 (lng 0 b e T) ∧ rs = []) := by
  refine afn Tryz.func36 a36_ok (by simp [a36]) ?_
  simp only [go_sem, Nat.reduceAdd, Nat.reduceSub, Nat.reduceMul, Nat.reduceEqDiff, Nat.reduceLT, Nat.reduceLeDiff, Nat.reduceBEq, reduceIte, reduceCtorEq, Int.reduceToNat, Int.reduceLE, Int.reduceLT, Int.reduceBEq, Int.reduceBNe, a36, a36r0, a36r1, a36r2, a36r3, a36r4, a36r5, a36r6, a36r7, a36r8, a36r9]
  refine avc_loop (fun env rows => ∃ (i : Nat) (r a : Int), i ≤ T.length ∧ lng 0 b e T = lng r a e (T.drop i) ∧ 0 ≤ r ∧ r ≤ 120968640 ∧ 0 ≤ a ∧ a ≤ 120968640 ∧ env = [(2, .int .i64 e), (7, .int .i64 r), (8, .int .i64 a), (12, .pure 2 (els T)), (13, .int .i64 T.length), (14, .int .i64 i)] ∧ rows = [])
    (fun env _ => match slot env 14 with | .int _ j => (T.length - j).toNat | _ => 0) ?_ ?_
  · exact Cl.here ⟨0, 0, b, by omega, rfl, by omega, by omega, by omega, by omega, rfl, rfl⟩
  · rintro env rows ⟨i, r, a, hi, hd, hr0, hr1, ha0, ha1, rfl, rfl⟩
    have hw : IntKind.i64.wrap ((i : Int) + 1) = ((i + 1 : Nat) : Int) := by rw [wrap_i64 (by omega) (by omega)]; omega
    have hwe : IntKind.i64.wrap (e - a) = e - a := wrap_i64 (by omega) (by omega)
    simp only [go_sem, Nat.reduceAdd, Nat.reduceSub, Nat.reduceMul, Nat.reduceEqDiff, Nat.reduceLT, Nat.reduceLeDiff, Nat.reduceBEq, reduceIte, reduceCtorEq, Int.reduceToNat, Int.reduceLE, Int.reduceLT, Int.reduceBEq, Int.reduceBNe, a36, a36r0, a36r1, a36r2, a36r3, a36r4, a36r5, a36r6, a36r7, a36r8, a36r9]
    refine condC_intro ?_ ?_ <;> intro hg2 <;> simp only [decide_eq_true_eq, decide_eq_false_iff_not, beq_iff_eq, beq_eq_false_iff_ne, bne_iff_ne, bne_eq_false_iff_eq, Bool.not_eq_true', Bool.not_eq_false', Int.not_lt, Int.not_le, ne_eq, Bool.and_eq_true, Bool.or_eq_true, Bool.or_eq_false_iff, Bool.and_eq_false_iff] at hg2 <;> simp only [go_sem, Nat.reduceAdd, Nat.reduceSub, Nat.reduceMul, Nat.reduceEqDiff, Nat.reduceLT, Nat.reduceLeDiff, Nat.reduceBEq, reduceIte, reduceCtorEq, Int.reduceToNat, Int.reduceLE, Int.reduceLT, Int.reduceBEq, Int.reduceBNe, a36, a36r0, a36r1, a36r2, a36r3, a36r4, a36r5, a36r6, a36r7, a36r8, a36r9]
    · have hlt : i < T.length := by omega
      refine ⟨by omega, by omega, ?_⟩
      try simp only [Int.toNat_natCast]
      have hv := hT T[i] (List.getElem_mem _)
      rw [lng_drop hlt] at hd
      rw [els_getD hlt]
      generalize T[i] = v at hv hd ⊢
      unfold ivP at hv
      simp only [go_sem, Nat.reduceAdd, Nat.reduceSub, Nat.reduceMul, Nat.reduceEqDiff, Nat.reduceLT, Nat.reduceLeDiff, Nat.reduceBEq, reduceIte, reduceCtorEq, Int.reduceToNat, Int.reduceLE, Int.reduceLT, Int.reduceBEq, Int.reduceBNe, cel_iv]
      by_cases h1 : v.fr ≥ e
      · have h1' : e ≤ v.fr := h1
        rw [if_pos h1'] at hd
        simp only [go_sem, Nat.reduceAdd, Nat.reduceSub, Nat.reduceMul, Nat.reduceEqDiff, Nat.reduceLT, Nat.reduceLeDiff, Nat.reduceBEq, reduceIte, reduceCtorEq, Int.reduceToNat, Int.reduceLE, Int.reduceLT, Int.reduceBEq, Int.reduceBNe, h1, hwe]
        exact Cl.fin rfl ⟨by rw [hd], rfl⟩
      · have h1' : ¬ e ≤ v.fr := h1
        rw [if_neg h1'] at hd
        simp only [go_sem, Nat.reduceAdd, Nat.reduceSub, Nat.reduceMul, Nat.reduceEqDiff, Nat.reduceLT, Nat.reduceLeDiff, Nat.reduceBEq, reduceIte, reduceCtorEq, Int.reduceToNat, Int.reduceLE, Int.reduceLT, Int.reduceBEq, Int.reduceBNe, h1, hw]
        rw [wrap_i64 (x := v.fr - a) (by omega) (by omega)]
        (refine Cl.tr [] [] rfl rfl (by simp only [go_sem, Nat.reduceAdd, Nat.reduceSub, Nat.reduceMul, Nat.reduceEqDiff, Nat.reduceLT, Nat.reduceLeDiff, Nat.reduceBEq, reduceIte, reduceCtorEq, Int.reduceToNat, Int.reduceLE, Int.reduceLT, Int.reduceBEq, Int.reduceBNe] <;> rfl) ?_; simp only [go_sem, Nat.reduceAdd, Nat.reduceSub, Nat.reduceMul, Nat.reduceEqDiff, Nat.reduceLT, Nat.reduceLeDiff, Nat.reduceBEq, reduceIte, reduceCtorEq, Int.reduceToNat, Int.reduceLE, Int.reduceLT, Int.reduceBEq, Int.reduceBNe])
        refine Cl.here ⟨⟨i + 1, _, _, by omega, hd, by omega, by omega, by omega, by omega, rfl, rfl⟩, ?_⟩
        simp only [go_sem, Nat.reduceAdd, Nat.reduceSub, Nat.reduceMul, Nat.reduceEqDiff, Nat.reduceLT, Nat.reduceLeDiff, Nat.reduceBEq, reduceIte, reduceCtorEq, Int.reduceToNat, Int.reduceLE, Int.reduceLT, Int.reduceBEq, Int.reduceBNe]
        omega
    · obtain rfl : i = T.length := by omega
      rw [hwe]
      rw [List.drop_length] at hd
      exact Cl.fin rfl ⟨by rw [hd]; rfl, rfl⟩

theorem els_drop_take {α : Type} [Cel α] {l : List α} {k n : Nat} (h : l.length ≤ k + n) : ((els l).drop k).take n = els (l.drop k) := by
  rw [List.take_of_length_le (by rw [List.length_drop, els_length]; omega), els, els, List.map_drop]
def allV (ws : List Wk) : List Iv := ws.flatMap (·.iv)
theorem allV_flat (ws : List Wk) : allV ws = (flatS ws).map fun s => ⟨s.fr, s.to⟩ := by
  unfold allV flatS flatW
  rw [List.map_flatMap]
  congr 1
  funext w
  rw [List.map_map]
  exact (List.map_id _).symm
def IsSp (ws : List Wk) (S : List Iv) : Prop := S.Perm (allV ws) ∧ S.Pairwise fun a b => a.fr ≤ b.fr
theorem IsSp.uniq {ws : List Wk} (he : spE ws = 0) {S T : List Iv} (h : IsSp ws S) (k : IsSp ws T) : S = T := by
  obtain ⟨hl1, hl2, hwk, hdj, hsum⟩ := spE_zero he
  have hne : (allV ws).Pairwise fun a b => a.fr ≠ b.fr := by
    rw [allV_flat, List.pairwise_map]
    refine (List.Pairwise.and_mem.1 hdj).imp fun {a b} h => ?_
    obtain ⟨ha, hb, h⟩ := h
    have h1 := (flat_iv hwk a ha).1
    have h2 := (flat_iv hwk b hb).1
    unfold ivP at h1 h2
    unfold disj at h
    simp only
    omega
  have f1 : S.Pairwise fun a b => a.fr < b.fr := (h.2.and ((h.1.pairwise_iff (fun h => Ne.symm h)).2 hne)).imp fun {a b} h => by omega
  have f2 : T.Pairwise fun a b => a.fr < b.fr := (k.2.and ((k.1.pairwise_iff (fun h => Ne.symm h)).2 hne)).imp fun {a b} h => by omega
  exact List.Perm.eq_of_pairwise (fun a b _ _ h1 h2 => by omega) f1 f2 (h.1.trans k.1.symm)
theorem IsSp.bd {ws : List Wk} (he : spE ws = 0) {S : List Iv} (h : IsSp ws S) : S.length ≤ 100000 ∧ ∀ v ∈ S, ivP v.fr v.to := by
  obtain ⟨hl1, hl2, hwk, hdj, hsum⟩ := spE_zero he
  have h1 := flat_len hwk
  have h2 := h.1.length_eq
  rw [allV_flat, List.length_map] at h2
  refine ⟨by omega, fun v hv => ?_⟩
  have h3 := h.1.mem_iff.1 hv
  rw [allV_flat] at h3
  obtain ⟨s, hs, rfl⟩ := List.mem_map.1 h3
  exact (flat_iv hwk s hs).1
theorem allV_take {ws : List Wk} {i : Nat} (h : i < ws.length) : allV (ws.take (i + 1)) = allV (ws.take i) ++ ws[i].iv := by
  unfold allV
  rw [List.take_add_one, List.getElem?_eq_getElem h, Option.toList_some, List.flatMap_append]
  simp
theorem allV_len {ws : List Wk} (he : spE ws = 0) (i : Nat) : (allV (ws.take i)).length ≤ 100000 := by
  obtain ⟨hl1, hl2, hwk, hdj, hsum⟩ := spE_zero he
  have h1 := flat_len hwk
  have h2 : (allV ws).length = (allV (ws.take i)).length + (allV (ws.drop i)).length := by
    unfold allV
    rw [← List.length_append, ← List.flatMap_append, List.take_append_drop]
  rw [allV_flat, List.length_map] at h2
  omega
/-- the rests of weeks -/
def wkR (z : Zn) : List Iv → List Int → List Br
  | _, [] => []
  | T, m :: ms => ⟨2, m, lng 0 (begZ z m) (begZ z (m + 7)) (T.dropWhile fun v => decide (v.to ≤ begZ z m))⟩ :: wkR z (T.dropWhile fun v => decide (v.to ≤ begZ z m)) ms
def brLt (n : Int) (x : Br) : Bool := decide (x.min < n)

set_option maxHeartbeats 2000000 in
theorem weekly_ok (z : Zn) (hz : vZ z = 0) (r : RR) (ws : List Wk) (he : spE ws = 0) (ms : List Int) (hms : ∀ m ∈ ms, 0 ≤ m ∧ m ≤ 83999) (hml : ms.length ≤ 20000) : AFn Tryz.prog 20 [z.v, .agg r.c, .pure 2 (els ws), .pure 1 (numsE .i64 ms)] []
    (fun v rs => ∃ S W, IsSp ws S ∧ W = (wkR z S ms).filter (brLt r.weekly) ∧ v = .own 0 W.length 0 W.length ∧ rs = [.live 40 3 (els W)]) := by
  refine afn Tryz.func20 a20_ok (by simp [a20]) ?_
  obtain ⟨hl1, hl2, hwk, hdj, hsum⟩ := spE_zero he
  have hbg := fun d h0 h1 => begin_ok z hz d h0 h1
  unfold Zn.v at *
  unfold RR.c
  simp only [go_sem, Nat.reduceAdd, Nat.reduceSub, Nat.reduceMul, Nat.reduceEqDiff, Nat.reduceLT, Nat.reduceLeDiff, Nat.reduceBEq, reduceIte, reduceCtorEq, Int.reduceToNat, Int.reduceLE, Int.reduceLT, Int.reduceBEq, Int.reduceBNe, a20, a20r0, a20r1, a20r2, a20r3, a20r4, a20r5, a20r6, a20r7, a20r8, a20r9, a20r10, a20r11, a20r12, a20r13, a20r14, a20r15, a20r16, a20r17, a20r18, a20r19, a20r20, a20r21]
  refine avc_loop (fun env rows => ∃ i : Nat, i ≤ ws.length ∧ env = [(3, .pure 1 (numsE .i64 ms)), (4, .ref 0 1 0 0), (5, .ref 1 1 0 0), (9, .own 2 (allV (ws.take i)).length 0 (allV (ws.take i)).length), (21, .pure 2 (els ws)), (22, .int .i64 ws.length), (23, .int .i64 i)] ∧ rows = [.live 27 2 [[.int .i64 z.off, .pure 2 (els z.ch)]], .live 33 4 [r.c], .live 53 2 (els (allV (ws.take i)))])
    (fun env _ => match slot env 23 with | .int _ j => (ws.length - j).toNat | _ => 0) ?_ ?_
  · (refine Cl.ghost 9  53  2 rfl (Cl.norm [ 3, 4, 5, 9, 21, 22, 23] ?_); simp only [go_sem, Nat.reduceAdd, Nat.reduceSub, Nat.reduceMul, Nat.reduceEqDiff, Nat.reduceLT, Nat.reduceLeDiff, Nat.reduceBEq, reduceIte, reduceCtorEq, Int.reduceToNat, Int.reduceLE, Int.reduceLT, Int.reduceBEq, Int.reduceBNe])
    exact Cl.here ⟨0, by omega, rfl, rfl⟩
  · rintro env rows ⟨i, hi, rfl, rfl⟩
    have hw : IntKind.i64.wrap ((i : Int) + 1) = ((i + 1 : Nat) : Int) := by rw [wrap_i64 (by omega) (by omega)]; omega
    unfold RR.c
    simp only [go_sem, Nat.reduceAdd, Nat.reduceSub, Nat.reduceMul, Nat.reduceEqDiff, Nat.reduceLT, Nat.reduceLeDiff, Nat.reduceBEq, reduceIte, reduceCtorEq, Int.reduceToNat, Int.reduceLE, Int.reduceLT, Int.reduceBEq, Int.reduceBNe, a20, a20r0, a20r1, a20r2, a20r3, a20r4, a20r5, a20r6, a20r7, a20r8, a20r9, a20r10, a20r11, a20r12, a20r13, a20r14, a20r15, a20r16, a20r17, a20r18, a20r19, a20r20, a20r21]
    refine condC_intro ?_ ?_ <;> intro hg2 <;> simp only [decide_eq_true_eq, decide_eq_false_iff_not, beq_iff_eq, beq_eq_false_iff_ne, bne_iff_ne, bne_eq_false_iff_eq, Bool.not_eq_true', Bool.not_eq_false', Int.not_lt, Int.not_le, ne_eq, Bool.and_eq_true, Bool.or_eq_true, Bool.or_eq_false_iff, Bool.and_eq_false_iff] at hg2 <;> simp only [go_sem, Nat.reduceAdd, Nat.reduceSub, Nat.reduceMul, Nat.reduceEqDiff, Nat.reduceLT, Nat.reduceLeDiff, Nat.reduceBEq, reduceIte, reduceCtorEq, Int.reduceToNat, Int.reduceLE, Int.reduceLT, Int.reduceBEq, Int.reduceBNe, a20, a20r0, a20r1, a20r2, a20r3, a20r4, a20r5, a20r6, a20r7, a20r8, a20r9, a20r10, a20r11, a20r12, a20r13, a20r14, a20r15, a20r16, a20r17, a20r18, a20r19, a20r20, a20r21]
    · have hlt : i < ws.length := by omega
      refine ⟨by omega, by omega, ?_⟩
      try simp only [Int.toNat_natCast]
      have hT := allV_take hlt
      have hln := allV_len he i
      have hwi := hl2 ws[i] (List.getElem_mem _)
      rw [els_getD hlt]
      generalize ws[i] = w at hT hwi ⊢
      simp only [go_sem, Nat.reduceAdd, Nat.reduceSub, Nat.reduceMul, Nat.reduceEqDiff, Nat.reduceLT, Nat.reduceLeDiff, Nat.reduceBEq, reduceIte, reduceCtorEq, Int.reduceToNat, Int.reduceLE, Int.reduceLT, Int.reduceBEq, Int.reduceBNe, cel_wk, hw]
      refine ⟨by omega, ?_⟩
      rw [← hT]
      (refine Cl.tr [some 0, some 1, some 2] [] rfl rfl (by simp only [go_sem, Nat.reduceAdd, Nat.reduceSub, Nat.reduceMul, Nat.reduceEqDiff, Nat.reduceLT, Nat.reduceLeDiff, Nat.reduceBEq, reduceIte, reduceCtorEq, Int.reduceToNat, Int.reduceLE, Int.reduceLT, Int.reduceBEq, Int.reduceBNe] <;> rfl) ?_; simp only [go_sem, Nat.reduceAdd, Nat.reduceSub, Nat.reduceMul, Nat.reduceEqDiff, Nat.reduceLT, Nat.reduceLeDiff, Nat.reduceBEq, reduceIte, reduceCtorEq, Int.reduceToNat, Int.reduceLE, Int.reduceLT, Int.reduceBEq, Int.reduceBNe])
      refine Cl.here ⟨⟨i + 1, by omega, ?_, rfl⟩, ?_⟩
      · rw [hT]; simp
      · simp only [go_sem, Nat.reduceAdd, Nat.reduceSub, Nat.reduceMul, Nat.reduceEqDiff, Nat.reduceLT, Nat.reduceLeDiff, Nat.reduceBEq, reduceIte, reduceCtorEq, Int.reduceToNat, Int.reduceLE, Int.reduceLT, Int.reduceBEq, Int.reduceBNe]
        omega
    · obtain rfl : i = ws.length := by omega
      have hln := allV_len he ws.length
      rw [List.take_length] at hln ⊢
      (refine callC_of [2] [] (by decide) (by simp only [go_sem, Nat.reduceAdd, Nat.reduceSub, Nat.reduceMul, Nat.reduceEqDiff, Nat.reduceLT, Nat.reduceLeDiff, Nat.reduceBEq, reduceIte, reduceCtorEq, Int.reduceToNat, Int.reduceLE, Int.reduceLT, Int.reduceBEq, Int.reduceBNe] <;> rfl) (by simp only [go_sem, Nat.reduceAdd, Nat.reduceSub, Nat.reduceMul, Nat.reduceEqDiff, Nat.reduceLT, Nat.reduceLeDiff, Nat.reduceBEq, reduceIte, reduceCtorEq, Int.reduceToNat, Int.reduceLE, Int.reduceLT, Int.reduceBEq, Int.reduceBNe] <;> rfl) (sortV_ok (allV ws) (by omega)) ?_; rintro _ _ ⟨rfl, S, h1, h2, rfl⟩; refine ⟨.inl rfl, ?_⟩; simp only [go_sem, Nat.reduceAdd, Nat.reduceSub, Nat.reduceMul, Nat.reduceEqDiff, Nat.reduceLT, Nat.reduceLeDiff, Nat.reduceBEq, reduceIte, reduceCtorEq, Int.reduceToNat, Int.reduceLE, Int.reduceLT, Int.reduceBEq, Int.reduceBNe])
      have hS : IsSp ws S := ⟨h1, h2⟩
      have hSl := h1.length_eq
      obtain ⟨hSn, hSb⟩ := hS.bd he
      rw [← hSl]
      have hdw : ∀ (q : Iv → Bool) (k : Nat) (hk : k < S.length), q S[k] = true → (S.drop k).dropWhile q = (S.drop (k + 1)).dropWhile q := by
        intro q k hk hq
        rw [List.drop_eq_getElem_cons hk, List.dropWhile_cons, if_pos hq]
      have hdw2 : ∀ (q : Iv → Bool) (k : Nat) (hk : k < S.length), q S[k] = false → (S.drop k).dropWhile q = S.drop k := by
        intro q k hk hq
        rw [List.drop_eq_getElem_cons hk, List.dropWhile_cons, if_neg (by simp [hq])]
      refine avc_loop (fun env rows => ∃ (i nx : Nat) (W : List Br), i ≤ ms.length ∧ nx ≤ S.length ∧ W ++ (wkR z (S.drop nx) (ms.drop i)).filter (brLt r.weekly) = (wkR z S ms).filter (brLt r.weekly) ∧ W.length ≤ i ∧
          env = [(4, .ref 0 1 0 0), (5, .ref 1 1 0 0), (9, .own 2 S.length 0 S.length), (12, .own 3 W.length 0 W.length), (13, .int .i64 nx), (34, .pure 1 (numsE .i64 ms)), (35, .int .i64 ms.length), (36, .int .i64 i)] ∧
          rows = [.live 27 2 [[.int .i64 z.off, .pure 2 (els z.ch)]], .live 33 4 [r.c], .live 53 2 (els S), .live 40 3 (els W)])
        (fun env _ => match slot env 36 with | .int _ j => (ms.length - j).toNat | _ => 0) ?_ ?_
      · (refine Cl.ghost 12  40  3 rfl (Cl.norm [ 4, 5, 9, 12, 13, 34, 35, 36] ?_); simp only [go_sem, Nat.reduceAdd, Nat.reduceSub, Nat.reduceMul, Nat.reduceEqDiff, Nat.reduceLT, Nat.reduceLeDiff, Nat.reduceBEq, reduceIte, reduceCtorEq, Int.reduceToNat, Int.reduceLE, Int.reduceLT, Int.reduceBEq, Int.reduceBNe])
        exact Cl.here ⟨0, 0, [], by omega, by omega, rfl, by simp, rfl, rfl⟩
      rintro env rows ⟨i, nx, W, hi, hnx, hd, hWl, rfl, rfl⟩
      have hw : IntKind.i64.wrap ((i : Int) + 1) = ((i + 1 : Nat) : Int) := by rw [wrap_i64 (by omega) (by omega)]; omega
      unfold RR.c
      simp only [go_sem, Nat.reduceAdd, Nat.reduceSub, Nat.reduceMul, Nat.reduceEqDiff, Nat.reduceLT, Nat.reduceLeDiff, Nat.reduceBEq, reduceIte, reduceCtorEq, Int.reduceToNat, Int.reduceLE, Int.reduceLT, Int.reduceBEq, Int.reduceBNe, a20, a20r0, a20r1, a20r2, a20r3, a20r4, a20r5, a20r6, a20r7, a20r8, a20r9, a20r10, a20r11, a20r12, a20r13, a20r14, a20r15, a20r16, a20r17, a20r18, a20r19, a20r20, a20r21]
      refine condC_intro ?_ ?_ <;> intro hg2 <;> simp only [decide_eq_true_eq, decide_eq_false_iff_not, beq_iff_eq, beq_eq_false_iff_ne, bne_iff_ne, bne_eq_false_iff_eq, Bool.not_eq_true', Bool.not_eq_false', Int.not_lt, Int.not_le, ne_eq, Bool.and_eq_true, Bool.or_eq_true, Bool.or_eq_false_iff, Bool.and_eq_false_iff] at hg2 <;> simp only [go_sem, Nat.reduceAdd, Nat.reduceSub, Nat.reduceMul, Nat.reduceEqDiff, Nat.reduceLT, Nat.reduceLeDiff, Nat.reduceBEq, reduceIte, reduceCtorEq, Int.reduceToNat, Int.reduceLE, Int.reduceLT, Int.reduceBEq, Int.reduceBNe, a20, a20r0, a20r1, a20r2, a20r3, a20r4, a20r5, a20r6, a20r7, a20r8, a20r9, a20r10, a20r11, a20r12, a20r13, a20r14, a20r15, a20r16, a20r17, a20r18, a20r19, a20r20, a20r21]
      · have hlt : i < ms.length := by omega
        refine ⟨by omega, by omega, ?_⟩
        try simp only [Int.toNat_natCast]
        have hm := hms ms[i] (List.getElem_mem _)
        have hgm : (numsE .i64 ms).getD i [] = [.int .i64 ms[i]] := by rw [numsE_getD hlt, List.getD_eq_getElem?_getD, List.getElem?_eq_getElem hlt, Option.getD_some]
        rw [List.drop_eq_getElem_cons hlt, wkR] at hd
        rw [hgm]
        generalize ms[i] = m at hm hd ⊢
        clear hgm
        simp only [go_sem, Nat.reduceAdd, Nat.reduceSub, Nat.reduceMul, Nat.reduceEqDiff, Nat.reduceLT, Nat.reduceLeDiff, Nat.reduceBEq, reduceIte, reduceCtorEq, Int.reduceToNat, Int.reduceLE, Int.reduceLT, Int.reduceBEq, Int.reduceBNe]
        refine callC_det (hbg m (by omega) (by omega)) rfl rfl ?_
        simp only [go_sem, Nat.reduceAdd, Nat.reduceSub, Nat.reduceMul, Nat.reduceEqDiff, Nat.reduceLT, Nat.reduceLeDiff, Nat.reduceBEq, reduceIte, reduceCtorEq, Int.reduceToNat, Int.reduceLE, Int.reduceLT, Int.reduceBEq, Int.reduceBNe]
        rw [wrap_i64 (x := m + 7) (by omega) (by omega)]
        refine callC_det (hbg (m + 7) (by omega) (by omega)) rfl rfl ?_
        simp only [go_sem, Nat.reduceAdd, Nat.reduceSub, Nat.reduceMul, Nat.reduceEqDiff, Nat.reduceLT, Nat.reduceLeDiff, Nat.reduceBEq, reduceIte, reduceCtorEq, Int.reduceToNat, Int.reduceLE, Int.reduceLT, Int.reduceBEq, Int.reduceBNe]
        have hb1 := begZ_bd (vZ_ok hz) m
        have hb2 := begZ_bd (vZ_ok hz) (m + 7)
        generalize begZ z m = bg at *
        generalize begZ z (m + 7) = en at *
        refine avc_loop (fun env rows => ∃ k : Nat, k ≤ S.length ∧ (S.drop nx).dropWhile (fun v => decide (v.to ≤ bg)) = (S.drop k).dropWhile (fun v => decide (v.to ≤ bg)) ∧
          env = [(4, .ref 0 1 0 0), (5, .ref 1 1 0 0), (9, .own 2 S.length 0 S.length), (12, .own 3 W.length 0 W.length), (13, .int .i64 k), (15, .int .i64 m), (16, .int .i64 bg), (18, .int .i64 en), (34, .pure 1 (numsE .i64 ms)), (35, .int .i64 ms.length), (36, .int .i64 i)] ∧
          rows = [.live 27 2 [[.int .i64 z.off, .pure 2 (els z.ch)]], .live 33 4 [r.c], .live 53 2 (els S), .live 40 3 (els W)])
          (fun env _ => match slot env 13 with | .int _ j => (S.length - j).toNat | _ => 0) ?_ ?_
        · exact Cl.here ⟨nx, by omega, rfl, rfl, rfl⟩
        rintro env rows ⟨k, hk, hdk, rfl, rfl⟩
        have hwk : IntKind.i64.wrap ((k : Int) + 1) = ((k + 1 : Nat) : Int) := by rw [wrap_i64 (by omega) (by omega)]; omega
        unfold RR.c
        have hrest : ∀ T : List Iv, T = S.drop k → (S.drop nx).dropWhile (fun v => decide (v.to ≤ bg)) = T → True := fun _ _ _ => trivial
        clear hrest
        simp only [go_sem, Nat.reduceAdd, Nat.reduceSub, Nat.reduceMul, Nat.reduceEqDiff, Nat.reduceLT, Nat.reduceLeDiff, Nat.reduceBEq, reduceIte, reduceCtorEq, Int.reduceToNat, Int.reduceLE, Int.reduceLT, Int.reduceBEq, Int.reduceBNe, a20, a20r0, a20r1, a20r2, a20r3, a20r4, a20r5, a20r6, a20r7, a20r8, a20r9, a20r10, a20r11, a20r12, a20r13, a20r14, a20r15, a20r16, a20r17, a20r18, a20r19, a20r20, a20r21]
        by_cases hk2 : (k : Int) < S.length
        · have hlt2 : k < S.length := by omega
          simp only [go_sem, Nat.reduceAdd, Nat.reduceSub, Nat.reduceMul, Nat.reduceEqDiff, Nat.reduceLT, Nat.reduceLeDiff, Nat.reduceBEq, reduceIte, reduceCtorEq, Int.reduceToNat, Int.reduceLE, Int.reduceLT, Int.reduceBEq, Int.reduceBNe, hk2]
          have hq := hdw (fun v => decide (v.to ≤ bg)) k hlt2
          have hq2 := hdw2 (fun v => decide (v.to ≤ bg)) k hlt2
          refine ⟨by omega, ?_⟩
          try simp only [Int.toNat_natCast]
          rw [els_getD hlt2]
          generalize S[k] = x at hq hq2 ⊢
          simp only [go_sem, Nat.reduceAdd, Nat.reduceSub, Nat.reduceMul, Nat.reduceEqDiff, Nat.reduceLT, Nat.reduceLeDiff, Nat.reduceBEq, reduceIte, reduceCtorEq, Int.reduceToNat, Int.reduceLE, Int.reduceLT, Int.reduceBEq, Int.reduceBNe, cel_iv]
          by_cases h3 : x.to ≤ bg
          · simp only [go_sem, Nat.reduceAdd, Nat.reduceSub, Nat.reduceMul, Nat.reduceEqDiff, Nat.reduceLT, Nat.reduceLeDiff, Nat.reduceBEq, reduceIte, reduceCtorEq, Int.reduceToNat, Int.reduceLE, Int.reduceLT, Int.reduceBEq, Int.reduceBNe, h3, a20, a20r0, a20r1, a20r2, a20r3, a20r4, a20r5, a20r6, a20r7, a20r8, a20r9, a20r10, a20r11, a20r12, a20r13, a20r14, a20r15, a20r16, a20r17, a20r18, a20r19, a20r20, a20r21, hwk]
            refine Cl.here ⟨⟨k + 1, by omega, by rw [hdk, hq (by simp [h3])], rfl, rfl⟩, ?_⟩
            simp only [go_sem, Nat.reduceAdd, Nat.reduceSub, Nat.reduceMul, Nat.reduceEqDiff, Nat.reduceLT, Nat.reduceLeDiff, Nat.reduceBEq, reduceIte, reduceCtorEq, Int.reduceToNat, Int.reduceLE, Int.reduceLT, Int.reduceBEq, Int.reduceBNe]
            omega
          · have hdk2 := hdk.trans (hq2 (by simp [h3]))
            clear hq hq2 hdk
            simp only [go_sem, Nat.reduceAdd, Nat.reduceSub, Nat.reduceMul, Nat.reduceEqDiff, Nat.reduceLT, Nat.reduceLeDiff, Nat.reduceBEq, reduceIte, reduceCtorEq, Int.reduceToNat, Int.reduceLE, Int.reduceLT, Int.reduceBEq, Int.reduceBNe, h3, a20, a20r0, a20r1, a20r2, a20r3, a20r4, a20r5, a20r6, a20r7, a20r8, a20r9, a20r10, a20r11, a20r12, a20r13, a20r14, a20r15, a20r16, a20r17, a20r18, a20r19, a20r20, a20r21]
            refine ⟨by omega, by omega, by omega, ?_⟩
            have hbind : bindL [.live 27 2 [[.int .i64 z.off, .pure 2 (els z.ch)]], .live 33 4 [[.int .i64 r.daily, .int .i64 r.weekly, .int .i64 r.average, .int .i64 r.weeks]], .live 53 2 (els S), .live 40 3 (els W)] [] [2] [.own 2 S.length k (S.length - k), .int .i64 bg, .int .i64 en] = [.pure 2 (els (S.drop k)), .int .i64 bg, .int .i64 en] := by
              rw [bindL, bindV_view (by simp) rfl (by rw [els_length]) (by omega) els_clean, els_drop_take (by omega)]
              rfl
            refine callC_view (Q := fun v => v = .int .i64 (lng 0 bg en (S.drop k))) [2] (longest_ok (S.drop k) (fun v hv => hSb v (List.mem_of_mem_drop hv)) (by rw [List.length_drop]; omega) bg en (by omega) (by omega) (by omega) (by omega)) hbind ?_
            rintro _ rfl
            refine ⟨rfl, rfl, ?_⟩
            rw [hdk2, List.filter_cons] at hd
            generalize lng 0 bg en (S.drop k) = rs at *
            simp only [go_sem, Nat.reduceAdd, Nat.reduceSub, Nat.reduceMul, Nat.reduceEqDiff, Nat.reduceLT, Nat.reduceLeDiff, Nat.reduceBEq, reduceIte, reduceCtorEq, Int.reduceToNat, Int.reduceLE, Int.reduceLT, Int.reduceBEq, Int.reduceBNe]
            by_cases h4 : rs < r.weekly
            · have hbr : brLt r.weekly ⟨2, m, rs⟩ = true := by simp [brLt, h4]
              rw [if_pos hbr] at hd
              simp only [go_sem, Nat.reduceAdd, Nat.reduceSub, Nat.reduceMul, Nat.reduceEqDiff, Nat.reduceLT, Nat.reduceLeDiff, Nat.reduceBEq, reduceIte, reduceCtorEq, Int.reduceToNat, Int.reduceLE, Int.reduceLT, Int.reduceBEq, Int.reduceBNe, h4]
              refine ⟨by omega, ?_⟩
              rw [br_snoc, hw]
              (refine Cl.tr [some 0, some 1, some 2, some 3] [] rfl rfl (by simp only [go_sem, Nat.reduceAdd, Nat.reduceSub, Nat.reduceMul, Nat.reduceEqDiff, Nat.reduceLT, Nat.reduceLeDiff, Nat.reduceBEq, reduceIte, reduceCtorEq, Int.reduceToNat, Int.reduceLE, Int.reduceLT, Int.reduceBEq, Int.reduceBNe] <;> rfl) ?_; simp only [go_sem, Nat.reduceAdd, Nat.reduceSub, Nat.reduceMul, Nat.reduceEqDiff, Nat.reduceLT, Nat.reduceLeDiff, Nat.reduceBEq, reduceIte, reduceCtorEq, Int.reduceToNat, Int.reduceLE, Int.reduceLT, Int.reduceBEq, Int.reduceBNe])
              refine Cl.here ⟨⟨i + 1, k, W ++ [⟨2, m, rs⟩], by omega, by omega, by simpa using hd, by simp; omega, by simp, rfl⟩, ?_⟩
              simp only [go_sem, Nat.reduceAdd, Nat.reduceSub, Nat.reduceMul, Nat.reduceEqDiff, Nat.reduceLT, Nat.reduceLeDiff, Nat.reduceBEq, reduceIte, reduceCtorEq, Int.reduceToNat, Int.reduceLE, Int.reduceLT, Int.reduceBEq, Int.reduceBNe]
              omega
            · have hbr : ¬ brLt r.weekly ⟨2, m, rs⟩ = true := by simp [brLt, h4]
              rw [if_neg hbr] at hd
              simp only [go_sem, Nat.reduceAdd, Nat.reduceSub, Nat.reduceMul, Nat.reduceEqDiff, Nat.reduceLT, Nat.reduceLeDiff, Nat.reduceBEq, reduceIte, reduceCtorEq, Int.reduceToNat, Int.reduceLE, Int.reduceLT, Int.reduceBEq, Int.reduceBNe, h4, hw]
              (refine Cl.tr [some 0, some 1, some 2, some 3] [] rfl rfl (by simp only [go_sem, Nat.reduceAdd, Nat.reduceSub, Nat.reduceMul, Nat.reduceEqDiff, Nat.reduceLT, Nat.reduceLeDiff, Nat.reduceBEq, reduceIte, reduceCtorEq, Int.reduceToNat, Int.reduceLE, Int.reduceLT, Int.reduceBEq, Int.reduceBNe] <;> rfl) ?_; simp only [go_sem, Nat.reduceAdd, Nat.reduceSub, Nat.reduceMul, Nat.reduceEqDiff, Nat.reduceLT, Nat.reduceLeDiff, Nat.reduceBEq, reduceIte, reduceCtorEq, Int.reduceToNat, Int.reduceLE, Int.reduceLT, Int.reduceBEq, Int.reduceBNe])
              refine Cl.here ⟨⟨i + 1, k, W, by omega, by omega, hd, by omega, rfl, rfl⟩, ?_⟩
              simp only [go_sem, Nat.reduceAdd, Nat.reduceSub, Nat.reduceMul, Nat.reduceEqDiff, Nat.reduceLT, Nat.reduceLeDiff, Nat.reduceBEq, reduceIte, reduceCtorEq, Int.reduceToNat, Int.reduceLE, Int.reduceLT, Int.reduceBEq, Int.reduceBNe]
              omega
        · obtain rfl : k = S.length := by omega
          · have hdk2 : (S.drop nx).dropWhile (fun v => decide (v.to ≤ bg)) = S.drop S.length := by rw [hdk, List.drop_length, List.dropWhile_nil]
            clear hdk
            simp only [go_sem, Nat.reduceAdd, Nat.reduceSub, Nat.reduceMul, Nat.reduceEqDiff, Nat.reduceLT, Nat.reduceLeDiff, Nat.reduceBEq, reduceIte, reduceCtorEq, Int.reduceToNat, Int.reduceLE, Int.reduceLT, Int.reduceBEq, Int.reduceBNe, hk2, a20, a20r0, a20r1, a20r2, a20r3, a20r4, a20r5, a20r6, a20r7, a20r8, a20r9, a20r10, a20r11, a20r12, a20r13, a20r14, a20r15, a20r16, a20r17, a20r18, a20r19, a20r20, a20r21]
            refine ⟨by omega, by omega, by omega, ?_⟩
            have hbind : bindL [.live 27 2 [[.int .i64 z.off, .pure 2 (els z.ch)]], .live 33 4 [[.int .i64 r.daily, .int .i64 r.weekly, .int .i64 r.average, .int .i64 r.weeks]], .live 53 2 (els S), .live 40 3 (els W)] [] [2] [.own 2 S.length S.length (S.length - S.length), .int .i64 bg, .int .i64 en] = [.pure 2 (els (S.drop S.length)), .int .i64 bg, .int .i64 en] := by
              rw [bindL, bindV_view (by simp) rfl (by rw [els_length]) (by omega) els_clean, els_drop_take (by omega)]
              rfl
            refine callC_view (Q := fun v => v = .int .i64 (lng 0 bg en (S.drop S.length))) [2] (longest_ok (S.drop S.length) (fun v hv => hSb v (List.mem_of_mem_drop hv)) (by rw [List.length_drop]; omega) bg en (by omega) (by omega) (by omega) (by omega)) hbind ?_
            rintro _ rfl
            refine ⟨rfl, rfl, ?_⟩
            rw [hdk2, List.filter_cons] at hd
            generalize lng 0 bg en (S.drop S.length) = rs at *
            simp only [go_sem, Nat.reduceAdd, Nat.reduceSub, Nat.reduceMul, Nat.reduceEqDiff, Nat.reduceLT, Nat.reduceLeDiff, Nat.reduceBEq, reduceIte, reduceCtorEq, Int.reduceToNat, Int.reduceLE, Int.reduceLT, Int.reduceBEq, Int.reduceBNe]
            by_cases h4 : rs < r.weekly
            · have hbr : brLt r.weekly ⟨2, m, rs⟩ = true := by simp [brLt, h4]
              rw [if_pos hbr] at hd
              simp only [go_sem, Nat.reduceAdd, Nat.reduceSub, Nat.reduceMul, Nat.reduceEqDiff, Nat.reduceLT, Nat.reduceLeDiff, Nat.reduceBEq, reduceIte, reduceCtorEq, Int.reduceToNat, Int.reduceLE, Int.reduceLT, Int.reduceBEq, Int.reduceBNe, h4]
              refine ⟨by omega, ?_⟩
              rw [br_snoc, hw]
              (refine Cl.tr [some 0, some 1, some 2, some 3] [] rfl rfl (by simp only [go_sem, Nat.reduceAdd, Nat.reduceSub, Nat.reduceMul, Nat.reduceEqDiff, Nat.reduceLT, Nat.reduceLeDiff, Nat.reduceBEq, reduceIte, reduceCtorEq, Int.reduceToNat, Int.reduceLE, Int.reduceLT, Int.reduceBEq, Int.reduceBNe] <;> rfl) ?_; simp only [go_sem, Nat.reduceAdd, Nat.reduceSub, Nat.reduceMul, Nat.reduceEqDiff, Nat.reduceLT, Nat.reduceLeDiff, Nat.reduceBEq, reduceIte, reduceCtorEq, Int.reduceToNat, Int.reduceLE, Int.reduceLT, Int.reduceBEq, Int.reduceBNe])
              refine Cl.here ⟨⟨i + 1, S.length, W ++ [⟨2, m, rs⟩], by omega, by omega, by simpa using hd, by simp; omega, by simp, rfl⟩, ?_⟩
              simp only [go_sem, Nat.reduceAdd, Nat.reduceSub, Nat.reduceMul, Nat.reduceEqDiff, Nat.reduceLT, Nat.reduceLeDiff, Nat.reduceBEq, reduceIte, reduceCtorEq, Int.reduceToNat, Int.reduceLE, Int.reduceLT, Int.reduceBEq, Int.reduceBNe]
              omega
            · have hbr : ¬ brLt r.weekly ⟨2, m, rs⟩ = true := by simp [brLt, h4]
              rw [if_neg hbr] at hd
              simp only [go_sem, Nat.reduceAdd, Nat.reduceSub, Nat.reduceMul, Nat.reduceEqDiff, Nat.reduceLT, Nat.reduceLeDiff, Nat.reduceBEq, reduceIte, reduceCtorEq, Int.reduceToNat, Int.reduceLE, Int.reduceLT, Int.reduceBEq, Int.reduceBNe, h4, hw]
              (refine Cl.tr [some 0, some 1, some 2, some 3] [] rfl rfl (by simp only [go_sem, Nat.reduceAdd, Nat.reduceSub, Nat.reduceMul, Nat.reduceEqDiff, Nat.reduceLT, Nat.reduceLeDiff, Nat.reduceBEq, reduceIte, reduceCtorEq, Int.reduceToNat, Int.reduceLE, Int.reduceLT, Int.reduceBEq, Int.reduceBNe] <;> rfl) ?_; simp only [go_sem, Nat.reduceAdd, Nat.reduceSub, Nat.reduceMul, Nat.reduceEqDiff, Nat.reduceLT, Nat.reduceLeDiff, Nat.reduceBEq, reduceIte, reduceCtorEq, Int.reduceToNat, Int.reduceLE, Int.reduceLT, Int.reduceBEq, Int.reduceBNe])
              refine Cl.here ⟨⟨i + 1, S.length, W, by omega, by omega, hd, by omega, rfl, rfl⟩, ?_⟩
              simp only [go_sem, Nat.reduceAdd, Nat.reduceSub, Nat.reduceMul, Nat.reduceEqDiff, Nat.reduceLT, Nat.reduceLeDiff, Nat.reduceBEq, reduceIte, reduceCtorEq, Int.reduceToNat, Int.reduceLE, Int.reduceLT, Int.reduceBEq, Int.reduceBNe]
              omega
      · obtain rfl : i = ms.length := by omega
        rw [List.drop_length] at hd
        simp only [wkR, List.filter_nil, List.append_nil] at hd
        (refine Cl.tr [some 3] [] rfl rfl (by simp only [go_sem, Nat.reduceAdd, Nat.reduceSub, Nat.reduceMul, Nat.reduceEqDiff, Nat.reduceLT, Nat.reduceLeDiff, Nat.reduceBEq, reduceIte, reduceCtorEq, Int.reduceToNat, Int.reduceLE, Int.reduceLT, Int.reduceBEq, Int.reduceBNe] <;> rfl) ?_; simp only [go_sem, Nat.reduceAdd, Nat.reduceSub, Nat.reduceMul, Nat.reduceEqDiff, Nat.reduceLT, Nat.reduceLeDiff, Nat.reduceBEq, reduceIte, reduceCtorEq, Int.reduceToNat, Int.reduceLE, Int.reduceLT, Int.reduceBEq, Int.reduceBNe])
        exact Cl.here ⟨S, W, hS, hd, rfl, rfl⟩

end Go.Proofs.YtaloobgfgehhdaaGreat
