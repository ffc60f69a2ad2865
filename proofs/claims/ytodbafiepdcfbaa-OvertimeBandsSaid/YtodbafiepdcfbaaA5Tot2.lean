/- Overtime: the reference's minutes of each band of a day; made pieces; the example. -/
import Derived.Test.YtodbafiepdcfbaaA5Tot
set_option linter.unusedSimpArgs false
set_option linter.unusedVariables false
set_option linter.unusedSectionVars false
namespace Go.Proofs.Ytodbafiepdcfbaa
open Go Go.Abs
set_option linter.unusedSimpArgs false
set_option linter.unusedVariables false

theorem idx_none {b : ByteArray} : ∀ {acc : List Tm}, (∀ j (h : j < acc.length), sEq acc[j].name b = false) → idxT b acc = none
  | [], _ => rfl
  | t :: ts, h => by
    have h0 := h 0 (by simp)
    simp only [List.getElem_cons_zero] at h0
    rw [idxT, if_neg (by simp [h0]), idx_none fun j hj => by have := h (j + 1) (by simpa using hj); simpa using this]
    rfl
theorem idx_some {b : ByteArray} : ∀ {acc : List Tm} {k : Nat} (hk : k < acc.length), (∀ j (h : j < k) (h2 : j < acc.length), sEq acc[j].name b = false) → sEq acc[k].name b = true → idxT b acc = some k
  | t :: ts, 0, _, _, h => by
    simp only [List.getElem_cons_zero] at h
    rw [idxT, if_pos h]
  | t :: ts, k + 1, hk, h, h2 => by
    have h0 := h 0 (by omega) (by simp)
    simp only [List.getElem_cons_zero] at h0
    rw [idxT, if_neg (by simp [h0]), idx_some (k := k) (by simpa using hk) (fun j hj hl => by have := h (j + 1) (by omega) (by simpa using hl); simpa using this) (by simpa using h2)]
    rfl

set_option maxHeartbeats 1000000 in
theorem rTotals_ok (l : List Pc) (hl0 : l.length ≤ 9223372036854775806) (day : Int) : AFn Try.prog 16 [.pure 4 (els l), .int .i64 day] [] (fun v rs => v = .own 0 (totals l day).length 0 (totals l day).length ∧ rs = [.live 31 2 (els (totals l day))]) := by
  refine afn Try.func16 a16_ok (by simp [a16]) ?_
  unfold totals
  simp only [go_sem, Nat.reduceAdd, Nat.reduceSub, Nat.reduceMul, Nat.reduceEqDiff, Nat.reduceLT, Nat.reduceLeDiff, Nat.reduceBEq, reduceIte, reduceCtorEq, Int.reduceToNat, Int.reduceLE, Int.reduceLT, Int.reduceBEq, Int.reduceBNe, a16, a16r0, a16r1, a16r2, a16r3, a16r4, a16r5, a16r6, a16r7, a16r8, a16r9, a16r10, a16r11, a16r12, a16r13]
  refine avc_loop (fun env rows => ∃ i : Nat, i ≤ l.length ∧ i ≤ 4096 ∧ env = [(0, .pure 4 (els l)), (1, .int .i64 day), (5, .own 0 ((l.take i).foldl (tot day) []).length 0 ((l.take i).foldl (tot day) []).length), (6, .int .i64 i)] ∧ rows = [.live 31 2 (els ((l.take i).foldl (tot day) []))])
    (fun env _ => match slot env 6 with | .int _ j => (l.length - j).toNat | _ => 0) ?_ ?_
  · (refine Cl.ghost 5  31  2 rfl (Cl.norm [ 0, 1, 5, 6] ?_); simp only [go_sem, Nat.reduceAdd, Nat.reduceSub, Nat.reduceMul, Nat.reduceEqDiff, Nat.reduceLT, Nat.reduceLeDiff, Nat.reduceBEq, reduceIte, reduceCtorEq, Int.reduceToNat, Int.reduceLE, Int.reduceLT, Int.reduceBEq, Int.reduceBNe])
    exact Cl.here ⟨0, by omega, by omega, rfl, rfl⟩
  rintro env rows ⟨i, hi, hi2, rfl, rfl⟩
  have hw : IntKind.i64.wrap ((i : Int) + 1) = ((i + 1 : Nat) : Int) := by rw [wrap_i64 (by omega) (by omega)]; omega
  simp only [go_sem, Nat.reduceAdd, Nat.reduceSub, Nat.reduceMul, Nat.reduceEqDiff, Nat.reduceLT, Nat.reduceLeDiff, Nat.reduceBEq, reduceIte, reduceCtorEq, Int.reduceToNat, Int.reduceLE, Int.reduceLT, Int.reduceBEq, Int.reduceBNe, a16, a16r0, a16r1, a16r2, a16r3, a16r4, a16r5, a16r6, a16r7, a16r8, a16r9, a16r10, a16r11, a16r12, a16r13]
  have hend : (i = l.length ∨ i = 4096) → l.take i = l.take 4096 := by
    rintro (h | h)
    · rw [List.take_of_length_le (by omega), List.take_of_length_le (by omega)]
    · rw [h]
  by_cases hlt : i < l.length
  rotate_left
  · have hlt' : ¬ (i : Int) < l.length := by omega
    simp only [go_sem, Nat.reduceAdd, Nat.reduceSub, Nat.reduceMul, Nat.reduceEqDiff, Nat.reduceLT, Nat.reduceLeDiff, Nat.reduceBEq, reduceIte, reduceCtorEq, Int.reduceToNat, Int.reduceLE, Int.reduceLT, Int.reduceBEq, Int.reduceBNe, hlt']
    rw [hend (.inl (by omega))]
    exact Cl.here ⟨rfl, rfl⟩
  by_cases hlt2 : i < 4096
  rotate_left
  · have hlt' : (i : Int) < l.length := by omega
    have hlt2' : ¬ (i : Int) < 4096 := by omega
    simp only [go_sem, Nat.reduceAdd, Nat.reduceSub, Nat.reduceMul, Nat.reduceEqDiff, Nat.reduceLT, Nat.reduceLeDiff, Nat.reduceBEq, reduceIte, reduceCtorEq, Int.reduceToNat, Int.reduceLE, Int.reduceLT, Int.reduceBEq, Int.reduceBNe, hlt', hlt2']
    rw [hend (.inr (by omega))]
    exact Cl.here ⟨rfl, rfl⟩
  have hlt' : (i : Int) < l.length := by omega
  have hlt2' : (i : Int) < 4096 := by omega
  simp only [go_sem, Nat.reduceAdd, Nat.reduceSub, Nat.reduceMul, Nat.reduceEqDiff, Nat.reduceLT, Nat.reduceLeDiff, Nat.reduceBEq, reduceIte, reduceCtorEq, Int.reduceToNat, Int.reduceLE, Int.reduceLT, Int.reduceBEq, Int.reduceBNe, hlt', hlt2']
  refine ⟨by omega, ?_⟩
  try simp only [Int.toNat_natCast]
  rw [els_getD hlt]
  have hT := tots_take (day := day) hlt
  obtain ⟨hbd, hlen⟩ := tots_bd l day i hi
  generalize l[i] = p at hT ⊢
  clear hend
  generalize (l.take i).foldl (tot day) [] = acc at hT hbd hlen ⊢
  have hnext : ∀ {acc' : List Tm}, acc' = tot day acc p → ∃ i_1 : Nat, i_1 ≤ l.length ∧ i_1 ≤ 4096 ∧ ([(0, .pure 4 (els l)), (1, .int .i64 day), (5, .own 0 acc'.length 0 acc'.length), (6, .int .i64 ((i + 1 : Nat) : Int))] : Env) = [(0, .pure 4 (els l)), (1, .int .i64 day), (5, .own 0 ((l.take i_1).foldl (tot day) []).length 0 ((l.take i_1).foldl (tot day) []).length), (6, .int .i64 i_1)] ∧ ([.live 31 2 (els acc')] : List Row) = [.live 31 2 (els ((l.take i_1).foldl (tot day) []))] := by
    intro acc' h
    exact ⟨i + 1, by omega, by omega, by rw [hT, ← h], by rw [hT, ← h]⟩
  simp only [go_sem, Nat.reduceAdd, Nat.reduceSub, Nat.reduceMul, Nat.reduceEqDiff, Nat.reduceLT, Nat.reduceLeDiff, Nat.reduceBEq, reduceIte, reduceCtorEq, Int.reduceToNat, Int.reduceLE, Int.reduceLT, Int.reduceBEq, Int.reduceBNe, cel_pc]
  by_cases hd : p.day = day
  rotate_left
  · have hd' : (p.day != day) = true := by simp [hd]
    simp only [go_sem, Nat.reduceAdd, Nat.reduceSub, Nat.reduceMul, Nat.reduceEqDiff, Nat.reduceLT, Nat.reduceLeDiff, Nat.reduceBEq, reduceIte, reduceCtorEq, Int.reduceToNat, Int.reduceLE, Int.reduceLT, Int.reduceBEq, Int.reduceBNe, hd', hw]
    (refine Cl.tr [some 0] [] rfl rfl (by simp only [go_sem, Nat.reduceAdd, Nat.reduceSub, Nat.reduceMul, Nat.reduceEqDiff, Nat.reduceLT, Nat.reduceLeDiff, Nat.reduceBEq, reduceIte, reduceCtorEq, Int.reduceToNat, Int.reduceLE, Int.reduceLT, Int.reduceBEq, Int.reduceBNe] <;> rfl) ?_; simp only [go_sem, Nat.reduceAdd, Nat.reduceSub, Nat.reduceMul, Nat.reduceEqDiff, Nat.reduceLT, Nat.reduceLeDiff, Nat.reduceBEq, reduceIte, reduceCtorEq, Int.reduceToNat, Int.reduceLE, Int.reduceLT, Int.reduceBEq, Int.reduceBNe])
    refine Cl.here ⟨hnext (by rw [tot, if_neg (fun h => hd h.1)]), ?_⟩
    simp only [go_sem, Nat.reduceAdd, Nat.reduceSub, Nat.reduceMul, Nat.reduceEqDiff, Nat.reduceLT, Nat.reduceLeDiff, Nat.reduceBEq, reduceIte, reduceCtorEq, Int.reduceToNat, Int.reduceLE, Int.reduceLT, Int.reduceBEq, Int.reduceBNe]
    omega
  have hd' : (p.day != day) = false := by simp [hd]
  simp only [go_sem, Nat.reduceAdd, Nat.reduceSub, Nat.reduceMul, Nat.reduceEqDiff, Nat.reduceLT, Nat.reduceLeDiff, Nat.reduceBEq, reduceIte, reduceCtorEq, Int.reduceToNat, Int.reduceLE, Int.reduceLT, Int.reduceBEq, Int.reduceBNe, hd']
  refine callC_det (isInterval_ok _ _) rfl rfl ?_
  by_cases hv : ivP p.fr p.to
  rotate_left
  · simp only [go_sem, Nat.reduceAdd, Nat.reduceSub, Nat.reduceMul, Nat.reduceEqDiff, Nat.reduceLT, Nat.reduceLeDiff, Nat.reduceBEq, reduceIte, reduceCtorEq, Int.reduceToNat, Int.reduceLE, Int.reduceLT, Int.reduceBEq, Int.reduceBNe, hv, hw]
    (refine Cl.tr [some 0] [] rfl rfl (by simp only [go_sem, Nat.reduceAdd, Nat.reduceSub, Nat.reduceMul, Nat.reduceEqDiff, Nat.reduceLT, Nat.reduceLeDiff, Nat.reduceBEq, reduceIte, reduceCtorEq, Int.reduceToNat, Int.reduceLE, Int.reduceLT, Int.reduceBEq, Int.reduceBNe] <;> rfl) ?_; simp only [go_sem, Nat.reduceAdd, Nat.reduceSub, Nat.reduceMul, Nat.reduceEqDiff, Nat.reduceLT, Nat.reduceLeDiff, Nat.reduceBEq, reduceIte, reduceCtorEq, Int.reduceToNat, Int.reduceLE, Int.reduceLT, Int.reduceBEq, Int.reduceBNe])
    refine Cl.here ⟨hnext (by rw [tot, if_neg (fun h => hv h.2)]), ?_⟩
    simp only [go_sem, Nat.reduceAdd, Nat.reduceSub, Nat.reduceMul, Nat.reduceEqDiff, Nat.reduceLT, Nat.reduceLeDiff, Nat.reduceBEq, reduceIte, reduceCtorEq, Int.reduceToNat, Int.reduceLE, Int.reduceLT, Int.reduceBEq, Int.reduceBNe]
    omega
  have hv1 := hv
  unfold ivP at hv1
  have htot : tot day acc p = addT p.band (p.to - p.fr) acc := by rw [tot, if_pos ⟨hd, hv⟩]
  rw [htot] at hnext
  simp only [go_sem, Nat.reduceAdd, Nat.reduceSub, Nat.reduceMul, Nat.reduceEqDiff, Nat.reduceLT, Nat.reduceLeDiff, Nat.reduceBEq, reduceIte, reduceCtorEq, Int.reduceToNat, Int.reduceLE, Int.reduceLT, Int.reduceBEq, Int.reduceBNe, hv]
  refine avc_loop (fun env rows => ∃ k : Nat, k ≤ acc.length ∧ (∀ j (h : j < k) (h2 : j < acc.length), sEq acc[j].name p.band = false) ∧ env = [(0, .pure 4 (els l)), (1, .int .i64 day), (5, .own 0 acc.length 0 acc.length), (6, .int .i64 i), (7, .ref 1 1 0 0), (8, .int .i64 k)] ∧ rows = [.live 31 2 (els acc), .live 50 4 [[.int .i64 p.day, .int .i64 p.fr, .int .i64 p.to, .str p.band]]])
    (fun env _ => match slot env 8 with | .int _ j => (acc.length - j).toNat | _ => 0) ?_ ?_
  · exact Cl.here ⟨0, by omega, fun j hj => by omega, rfl, rfl⟩
  rintro env rows ⟨k, hk, hno, rfl, rfl⟩
  have hwk : IntKind.i64.wrap ((k : Int) + 1) = ((k + 1 : Nat) : Int) := by rw [wrap_i64 (by omega) (by omega)]; omega
  simp only [go_sem, Nat.reduceAdd, Nat.reduceSub, Nat.reduceMul, Nat.reduceEqDiff, Nat.reduceLT, Nat.reduceLeDiff, Nat.reduceBEq, reduceIte, reduceCtorEq, Int.reduceToNat, Int.reduceLE, Int.reduceLT, Int.reduceBEq, Int.reduceBNe, a16, a16r0, a16r1, a16r2, a16r3, a16r4, a16r5, a16r6, a16r7, a16r8, a16r9, a16r10, a16r11, a16r12, a16r13]
  by_cases hkl : k < acc.length
  · have hkl' : (k : Int) < acc.length := by omega
    have hgk : (els acc).getD k [] = [.str acc[k].name, .int .i64 acc[k].min] := by rw [els_getD hkl, cel_tm]
    simp only [go_sem, Nat.reduceAdd, Nat.reduceSub, Nat.reduceMul, Nat.reduceEqDiff, Nat.reduceLT, Nat.reduceLeDiff, Nat.reduceBEq, reduceIte, reduceCtorEq, Int.reduceToNat, Int.reduceLE, Int.reduceLT, Int.reduceBEq, Int.reduceBNe, hkl']
    refine ⟨by omega, ?_⟩
    try simp only [Int.toNat_natCast]
    rw [hgk]
    simp only [go_sem, Nat.reduceAdd, Nat.reduceSub, Nat.reduceMul, Nat.reduceEqDiff, Nat.reduceLT, Nat.reduceLeDiff, Nat.reduceBEq, reduceIte, reduceCtorEq, Int.reduceToNat, Int.reduceLE, Int.reduceLT, Int.reduceBEq, Int.reduceBNe]
    rcases hs : sEq acc[k].name p.band with _ | _
    · have hs' : (acc[k].name.toList == p.band.toList) = false := hs
      simp only [go_sem, Nat.reduceAdd, Nat.reduceSub, Nat.reduceMul, Nat.reduceEqDiff, Nat.reduceLT, Nat.reduceLeDiff, Nat.reduceBEq, reduceIte, reduceCtorEq, Int.reduceToNat, Int.reduceLE, Int.reduceLT, Int.reduceBEq, Int.reduceBNe, hs', hwk]
      refine Cl.here ⟨⟨k + 1, by omega, fun j hj hl => ?_, rfl, rfl⟩, ?_⟩
      · by_cases hjk : j = k
        · subst hjk; exact hs
        · exact hno j (by omega) hl
      · simp only [go_sem, Nat.reduceAdd, Nat.reduceSub, Nat.reduceMul, Nat.reduceEqDiff, Nat.reduceLT, Nat.reduceLeDiff, Nat.reduceBEq, reduceIte, reduceCtorEq, Int.reduceToNat, Int.reduceLE, Int.reduceLT, Int.reduceBEq, Int.reduceBNe]
        omega
    · have hs' : (acc[k].name.toList == p.band.toList) = true := hs
      have hke : ((k : Int) == acc.length) = false := by simp; omega
      obtain ⟨_, hadd⟩ := addT_some (m := p.to - p.fr) (idx_some hkl hno hs)
      have hbj := hbd acc[k] (List.getElem_mem _)
      have hset : (els acc).set k [.str acc[k].name, .int .i64 (acc[k].min + (p.to - p.fr))] = els (addT p.band (p.to - p.fr) acc) := by rw [hadd]; exact els_set (x := Tm.mk acc[k].name (acc[k].min + (p.to - p.fr)))
      have hlen2 : (addT p.band (p.to - p.fr) acc).length = acc.length := by rw [hadd, List.length_set]
      simp only [go_sem, Nat.reduceAdd, Nat.reduceSub, Nat.reduceMul, Nat.reduceEqDiff, Nat.reduceLT, Nat.reduceLeDiff, Nat.reduceBEq, reduceIte, reduceCtorEq, Int.reduceToNat, Int.reduceLE, Int.reduceLT, Int.reduceBEq, Int.reduceBNe, hs', hke, hkl']
      refine ⟨by omega, ?_⟩
      try simp only [Int.toNat_natCast]
      rw [hgk]
      simp only [go_sem, Nat.reduceAdd, Nat.reduceSub, Nat.reduceMul, Nat.reduceEqDiff, Nat.reduceLT, Nat.reduceLeDiff, Nat.reduceBEq, reduceIte, reduceCtorEq, Int.reduceToNat, Int.reduceLE, Int.reduceLT, Int.reduceBEq, Int.reduceBNe, hgk]
      rw [wrap_i64 (x := p.to - p.fr) (by omega) (by omega), wrap_i64 (x := acc[k].min + (p.to - p.fr)) (by omega) (by omega), hw]
      repeat (refine And.intro (by first | rfl | omega) ?_)
      rw [hset, show acc.length = (addT p.band (p.to - p.fr) acc).length from by omega]
      (refine Cl.tr [some 0] [] rfl rfl (by simp only [go_sem, Nat.reduceAdd, Nat.reduceSub, Nat.reduceMul, Nat.reduceEqDiff, Nat.reduceLT, Nat.reduceLeDiff, Nat.reduceBEq, reduceIte, reduceCtorEq, Int.reduceToNat, Int.reduceLE, Int.reduceLT, Int.reduceBEq, Int.reduceBNe] <;> rfl) ?_; simp only [go_sem, Nat.reduceAdd, Nat.reduceSub, Nat.reduceMul, Nat.reduceEqDiff, Nat.reduceLT, Nat.reduceLeDiff, Nat.reduceBEq, reduceIte, reduceCtorEq, Int.reduceToNat, Int.reduceLE, Int.reduceLT, Int.reduceBEq, Int.reduceBNe])
      refine Cl.here ⟨hnext rfl, ?_⟩
      simp only [go_sem, Nat.reduceAdd, Nat.reduceSub, Nat.reduceMul, Nat.reduceEqDiff, Nat.reduceLT, Nat.reduceLeDiff, Nat.reduceBEq, reduceIte, reduceCtorEq, Int.reduceToNat, Int.reduceLE, Int.reduceLT, Int.reduceBEq, Int.reduceBNe]
      omega
  · obtain rfl : k = acc.length := by omega
    have hkl' : ¬ (acc.length : Int) < acc.length := by omega
    have hx := idx_none (b := p.band) (acc := acc) fun j h => hno j h h
    obtain ⟨B, hB⟩ : ∃ B : List Tm, B = acc ++ [⟨p.band, 0⟩] := ⟨_, rfl⟩
    have hBl : B.length = acc.length + 1 := by rw [hB]; simp
    have hj : acc.length < B.length := by omega
    have hBj : B[acc.length] = ⟨p.band, 0⟩ := by subst hB; simp
    have hadd : addT p.band (p.to - p.fr) acc = B.set acc.length ⟨B[acc.length].name, B[acc.length].min + (p.to - p.fr)⟩ := by
      rw [addT_none hx, hBj]
      subst hB
      simp
    have hbj : 0 ≤ B[acc.length].min ∧ B[acc.length].min ≤ 120968640 * 4096 := by rw [hBj]; simp
    have hgj : (els B).getD acc.length [] = [.str B[acc.length].name, .int .i64 B[acc.length].min] := by rw [els_getD hj, cel_tm]
    have hset : (els B).set acc.length [.str B[acc.length].name, .int .i64 (B[acc.length].min + (p.to - p.fr))] = els (addT p.band (p.to - p.fr) acc) := by rw [hadd]; exact els_set (x := Tm.mk B[acc.length].name (B[acc.length].min + (p.to - p.fr)))
    have hlen2 : (addT p.band (p.to - p.fr) acc).length = B.length := by rw [hadd, List.length_set]
    simp only [go_sem, Nat.reduceAdd, Nat.reduceSub, Nat.reduceMul, Nat.reduceEqDiff, Nat.reduceLT, Nat.reduceLeDiff, Nat.reduceBEq, reduceIte, reduceCtorEq, Int.reduceToNat, Int.reduceLE, Int.reduceLT, Int.reduceBEq, Int.reduceBNe, hkl', tm_snoc]
    refine ⟨by omega, ?_⟩
    rw [← hB]
    simp only [go_sem, Nat.reduceAdd, Nat.reduceSub, Nat.reduceMul, Nat.reduceEqDiff, Nat.reduceLT, Nat.reduceLeDiff, Nat.reduceBEq, reduceIte, reduceCtorEq, Int.reduceToNat, Int.reduceLE, Int.reduceLT, Int.reduceBEq, Int.reduceBNe, hBl]
    refine ⟨by omega, by omega, ?_⟩
    try simp only [Int.toNat_natCast]
    simp only [go_sem, Nat.reduceAdd, Nat.reduceSub, Nat.reduceMul, Nat.reduceEqDiff, Nat.reduceLT, Nat.reduceLeDiff, Nat.reduceBEq, reduceIte, reduceCtorEq, Int.reduceToNat, Int.reduceLE, Int.reduceLT, Int.reduceBEq, Int.reduceBNe, hgj]
    rw [wrap_i64 (x := p.to - p.fr) (by omega) (by omega), wrap_i64 (x := B[acc.length].min + (p.to - p.fr)) (by omega) (by omega), hw]
    refine ⟨by omega, by omega, by omega, by omega, ?_⟩
    rw [hset, show acc.length + 1 = (addT p.band (p.to - p.fr) acc).length from by omega]
    (refine Cl.tr [some 0] [] rfl rfl (by simp only [go_sem, Nat.reduceAdd, Nat.reduceSub, Nat.reduceMul, Nat.reduceEqDiff, Nat.reduceLT, Nat.reduceLeDiff, Nat.reduceBEq, reduceIte, reduceCtorEq, Int.reduceToNat, Int.reduceLE, Int.reduceLT, Int.reduceBEq, Int.reduceBNe] <;> rfl) ?_; simp only [go_sem, Nat.reduceAdd, Nat.reduceSub, Nat.reduceMul, Nat.reduceEqDiff, Nat.reduceLT, Nat.reduceLeDiff, Nat.reduceBEq, reduceIte, reduceCtorEq, Int.reduceToNat, Int.reduceLE, Int.reduceLT, Int.reduceBEq, Int.reduceBNe])
    refine Cl.here ⟨hnext rfl, ?_⟩
    simp only [go_sem, Nat.reduceAdd, Nat.reduceSub, Nat.reduceMul, Nat.reduceEqDiff, Nat.reduceLT, Nat.reduceLeDiff, Nat.reduceBEq, reduceIte, reduceCtorEq, Int.reduceToNat, Int.reduceLE, Int.reduceLT, Int.reduceBEq, Int.reduceBNe]
    omega

end Go.Proofs.Ytodbafiepdcfbaa
