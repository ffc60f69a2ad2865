/- The statement RecordsAccount: plain law and walk. -/
import Derived.Test.YtkgffhjlfdmfeaaA1Pl
import Derived.Test.YtkgffhjlfdmfeaaAbs32
set_option linter.unusedSimpArgs false
set_option linter.unusedVariables false
set_option linter.unusedSectionVars false
namespace Go.Proofs.Ytkgffhjlfdmfeaa
open Go Go.Abs Rec
set_option linter.unusedSimpArgs false

def total : List Gp → Int
  | [] => 0
  | g :: gs => (g.to - g.fr) + total gs
theorem total_append : ∀ (a b : List Gp), total (a ++ b) = total a + total b
  | [], b => by simp [total]
  | g :: a, b => by simp only [List.cons_append, total, total_append a b]; omega
theorem total_set : ∀ (l : List Gp) (i : Nat) (h : i < l.length) (g : Gp), total (l.set i g) = total l - (l[i].to - l[i].fr) + (g.to - g.fr)
  | x :: l, 0, _, g => by simp only [List.set_cons_zero, total, List.getElem_cons_zero]; omega
  | x :: l, i + 1, h, g => by
    have := total_set l i (by simpa using h) g
    simp only [List.set_cons_succ, total, List.getElem_cons_succ]
    omega

structure GapsOk (gs : List Gp) (n : Nat) : Prop where
  each : ∀ i (h : i < gs.length), 0 ≤ gs[i].fr ∧ gs[i].fr < gs[i].to ∧ gs[i].to ≤ n
  next : ∀ i (h : i + 1 < gs.length), gs[i].to < gs[i + 1].fr

theorem gaps_mono {gs : List Gp} {n m : Nat} (h : GapsOk gs n) (hm : n ≤ m) : GapsOk gs m :=
  ⟨fun i hi => by have := h.each i hi; omega, h.next⟩
theorem gaps_add {gs : List Gp} {n : Nat} (h : GapsOk gs n) : GapsOk (addGap gs n) (n + 1) ∧ total (addGap gs n) = total gs + 1 := by
  unfold addGap
  split
  · rename_i hl
    have hpos : 0 < gs.length := by
      rcases Nat.eq_zero_or_pos gs.length with h0 | h0
      · rw [List.eq_nil_of_length_eq_zero h0] at hl
        simp [lastGap] at hl
      · exact h0
    have hlg : lastGap gs = gs[gs.length - 1] := by
      rw [lastGap, List.getD_eq_getElem?_getD, List.getElem?_eq_getElem (by omega)]; rfl
    rw [hlg] at hl ⊢
    refine ⟨⟨fun i hi => ?_, fun i hi => ?_⟩, ?_⟩
    · simp only [List.length_set] at hi
      have := h.each i hi
      rw [List.getElem_set]
      split
      · rename_i he
        subst he
        simp only
        omega
      · omega
    · simp only [List.length_set] at hi
      have := h.next i hi
      rw [List.getElem_set, List.getElem_set, if_neg (by omega)]
      split
      · rename_i he
        simp only [he]
        exact this
      · exact this
    · rw [total_set gs _ (by omega)]
      simp only
      omega
  · rename_i hl
    refine ⟨⟨fun i hi => ?_, fun i hi => ?_⟩, ?_⟩
    · rw [List.length_append, List.length_singleton] at hi
      rw [List.getElem_append]
      split
      · rename_i hlt
        have := h.each i hlt
        omega
      · simp only [List.getElem_singleton]
        omega
    · rw [List.length_append, List.length_singleton] at hi
      rw [List.getElem_append, dif_pos (by omega), List.getElem_append]
      split
      · rename_i hlt
        exact h.next i hlt
      · simp only [List.getElem_singleton]
        have he : i = gs.length - 1 := by omega
        have hlg : lastGap gs = gs[gs.length - 1] := by
          rw [lastGap, List.getD_eq_getElem?_getD, List.getElem?_eq_getElem (by omega)]; rfl
        have := h.each i (by omega)
        rw [hlg] at hl
        subst he
        omega
    · rw [total_append]
      simp only [total]
      omega
theorem scan_gaps {b : List UInt8} : ∀ (n at_ : Nat) (es : List Ev) (gs : List Gp), GapsOk gs at_ → 24 * (es.length : Int) + total gs = at_ →
    GapsOk (scan b n at_ es gs).2.1 (scan b n at_ es gs).2.2 ∧ 24 * ((scan b n at_ es gs).1.length : Int) + total (scan b n at_ es gs).2.1 = (scan b n at_ es gs).2.2
  | 0, at_, es, gs, h1, h2 => ⟨h1, h2⟩
  | n + 1, at_, es, gs, h1, h2 => by
    by_cases h : at_ + 24 ≤ b.length
    · rw [scan_step h]
      split
      · exact scan_gaps n _ _ _ (gaps_mono h1 (by omega)) (by simp; omega)
      · obtain ⟨g1, g2⟩ := gaps_add h1
        exact scan_gaps n _ _ _ g1 (by rw [g2]; omega)
    · rw [scan_end h]; exact ⟨h1, h2⟩
theorem decode_gaps (b : List UInt8) : GapsOk (decode b).2.1 (decode b).2.2 ∧ 24 * ((decode b).1.length : Int) + total (decode b).2.1 = (decode b).2.2 :=
  scan_gaps _ 0 [] [] ⟨fun i h => by simp at h, fun i h => by simp at h⟩ (by simp [total])
theorem decode_end (b : List UInt8) : (decode b).2.2 ≤ b.length ∧ b.length < (decode b).2.2 + 24 := by
  have h1 := scan_run b (b.length + 1) 0 [] []
  have h2 := run_range b (b.length + 1) 0 (by omega) (by omega)
  have h3 : (decode b).2.2 = (run b (b.length + 1) 0).2 := h1.2
  omega

theorem recordsAccount (l : List Int) (hl : TapeOk l) (raw : List UInt8) (hr : raw.length ≤ 9223372036854775807) : AFn Try.prog 8 [.pure 1 (numsE .i64 l), .pure 1 (els raw)] [] (fun v _ => v = .bool true) := by
  refine afn Try.func8 a8_ok (by simp [a8]) ?_
  simp only [go_sem, Nat.reduceAdd, Nat.reduceSub, Nat.reduceMul, Nat.reduceEqDiff, Nat.reduceLT, Nat.reduceLeDiff, Nat.reduceBEq, reduceIte, reduceCtorEq, Int.reduceToNat, Int.reduceLE, Int.reduceLT, Int.reduceBEq, Int.reduceBNe, a8, a8r0, a8r1, a8r2, a8r3, a8r4, a8r5, a8r6, a8r7, a8r8, a8r9, a8r10, a8r11, a8r12, a8r13]
  (refine callC_of [] [] (by simp) rfl (bindL_clean _ (by first | rfl | simp only [go_sem, Nat.reduceAdd, Nat.reduceSub, Nat.reduceMul, Nat.reduceEqDiff, Nat.reduceLT, Nat.reduceLeDiff, Nat.reduceBEq, reduceIte, reduceCtorEq, Int.reduceToNat, Int.reduceLE, Int.reduceLT, Int.reduceBEq, Int.reduceBNe])) (new_ok l) ?_; rintro _ _ ⟨rfl, rfl⟩; refine ⟨.inl rfl, ?_⟩; simp only [go_sem, Nat.reduceAdd, Nat.reduceSub, Nat.reduceMul, Nat.reduceEqDiff, Nat.reduceLT, Nat.reduceLeDiff, Nat.reduceBEq, reduceIte, reduceCtorEq, Int.reduceToNat, Int.reduceLE, Int.reduceLT, Int.reduceBEq, Int.reduceBNe])
  refine callC_of [0] [] (by decide) (tape_getRows rfl) (tape_bind rfl) (frames_ok l hl 4 (by omega) (by omega) 0 (by omega) (by omega)) ?_
  rintro _ _ ⟨a, bs, rfl, rfl, _, _, hbs⟩
  refine ⟨.inl rfl, ?_⟩
  simp only [go_sem, Nat.reduceAdd, Nat.reduceSub, Nat.reduceMul, Nat.reduceEqDiff, Nat.reduceLT, Nat.reduceLeDiff, Nat.reduceBEq, reduceIte, reduceCtorEq, Int.reduceToNat, Int.reduceLE, Int.reduceLT, Int.reduceBEq, Int.reduceBNe, tp]
  refine condC_cut (fun env rows => ∃ bs : List UInt8, slot env 5 = .own 1 bs.length 0 bs.length ∧ rows = [tapeRow 57 l a, .live 5 1 (els bs)] ∧ bs.length ≤ 3000) ?_ ?_ ?_
  · intro hc
    simp only [decide_eq_true_eq, decide_eq_false_iff_not, beq_iff_eq, beq_eq_false_iff_ne, bne_iff_ne, bne_eq_false_iff_eq, Bool.not_eq_true', Bool.not_eq_false', Int.not_lt, Int.not_le, ne_eq, Bool.and_eq_true, Bool.or_eq_true, Bool.or_eq_false_iff, Bool.and_eq_false_iff] at hc
    simp only [go_sem, Nat.reduceAdd, Nat.reduceSub, Nat.reduceMul, Nat.reduceEqDiff, Nat.reduceLT, Nat.reduceLeDiff, Nat.reduceBEq, reduceIte, reduceCtorEq, Int.reduceToNat, Int.reduceLE, Int.reduceLT, Int.reduceBEq, Int.reduceBNe, a8, a8r0, a8r1, a8r2, a8r3, a8r4, a8r5, a8r6, a8r7, a8r8, a8r9, a8r10, a8r11, a8r12, a8r13]
    exact ⟨by omega, bs ++ raw, by simp, rfl, by simp; omega⟩
  · intro hc
    simp only [go_sem, Nat.reduceAdd, Nat.reduceSub, Nat.reduceMul, Nat.reduceEqDiff, Nat.reduceLT, Nat.reduceLeDiff, Nat.reduceBEq, reduceIte, reduceCtorEq, Int.reduceToNat, Int.reduceLE, Int.reduceLT, Int.reduceBEq, Int.reduceBNe, a8, a8r0, a8r1, a8r2, a8r3, a8r4, a8r5, a8r6, a8r7, a8r8, a8r9, a8r10, a8r11, a8r12, a8r13]
    exact ⟨bs, rfl, rfl, by omega⟩
  clear hbs
  clear bs
  rintro env _ ⟨b, s5, rfl, hb⟩
  simp only [go_sem, Nat.reduceAdd, Nat.reduceSub, Nat.reduceMul, Nat.reduceEqDiff, Nat.reduceLT, Nat.reduceLeDiff, Nat.reduceBEq, reduceIte, reduceCtorEq, Int.reduceToNat, Int.reduceLE, Int.reduceLT, Int.reduceBEq, Int.reduceBNe, a8, a8r0, a8r1, a8r2, a8r3, a8r4, a8r5, a8r6, a8r7, a8r8, a8r9, a8r10, a8r11, a8r12, a8r13, s5]
  refine callC_lookNewAll (decode_ok b (by omega)) rfl (by rw [els_length]) els_clean ?_
  rintro _ _ ⟨rfl, rfl⟩
  refine ⟨rfl, by simp only [go_sem, Nat.reduceAdd, Nat.reduceSub, Nat.reduceMul, Nat.reduceEqDiff, Nat.reduceLT, Nat.reduceLeDiff, Nat.reduceBEq, reduceIte, reduceCtorEq, Int.reduceToNat, Int.reduceLE, Int.reduceLT, Int.reduceBEq, Int.reduceBNe], ?_⟩
  obtain ⟨hG, hT⟩ := decode_gaps b
  have hE := decode_end b
  have hB := decode_bound (b := b)
  generalize decode b = X at *
  simp only [go_sem, Nat.reduceAdd, Nat.reduceSub, Nat.reduceMul, Nat.reduceEqDiff, Nat.reduceLT, Nat.reduceLeDiff, Nat.reduceBEq, reduceIte, reduceCtorEq, Int.reduceToNat, Int.reduceLE, Int.reduceLT, Int.reduceBEq, Int.reduceBNe, a8, a8r0, a8r1, a8r2, a8r3, a8r4, a8r5, a8r6, a8r7, a8r8, a8r9, a8r10, a8r11, a8r12, a8r13]
  rw [wrap_i64 (by omega) (by omega), s5]
  generalize X.2.1 = gs at *
  generalize X.2.2 = n at *
  refine avc_loop (fun env rows => ∃ (i : Nat) (last : Int), i ≤ gs.length ∧ env = [(5, .own 1 b.length 0 b.length), (7, .own 3 gs.length 0 gs.length), (8, .int .i64 n), (9, .int .i64 (24 * X.1.length + total (gs.take i))), (10, .int .i64 last), (11, .int .i64 i)] ∧
      rows = [tapeRow 57 l a, .live 5 1 (els b), .live 26 7 (els X.1), .live 55 2 (els gs)] ∧ 0 ≤ last ∧ last ≤ n ∧ 0 ≤ total (gs.take i) ∧ total (gs.take i) ≤ last ∧ (∀ (h : i < gs.length), last ≤ gs[i].fr ∧ (0 < i → last < gs[i].fr)))
    (fun env _ => match slot env 11 with | .int _ j => (gs.length - j).toNat | _ => 0) ?_ ?_
  · refine Cl.here ⟨0, 0, by omega, by simp [total], rfl, by omega, by omega, by simp [total], by simp [total], fun h => ?_⟩
    have := hG.each 0 h
    omega
  · rintro env rows ⟨i, last, hi, rfl, rfl, hl0, hl1, ht0, ht1, hlast⟩
    simp only [go_sem, Nat.reduceAdd, Nat.reduceSub, Nat.reduceMul, Nat.reduceEqDiff, Nat.reduceLT, Nat.reduceLeDiff, Nat.reduceBEq, reduceIte, reduceCtorEq, Int.reduceToNat, Int.reduceLE, Int.reduceLT, Int.reduceBEq, Int.reduceBNe, a8, a8r0, a8r1, a8r2, a8r3, a8r4, a8r5, a8r6, a8r7, a8r8, a8r9, a8r10, a8r11, a8r12, a8r13]
    refine condC_intro ?_ ?_ <;> intro hi1 <;> simp only [decide_eq_true_eq, decide_eq_false_iff_not, beq_iff_eq, beq_eq_false_iff_ne, bne_iff_ne, bne_eq_false_iff_eq, Bool.not_eq_true', Bool.not_eq_false', Int.not_lt, Int.not_le, ne_eq, Bool.and_eq_true, Bool.or_eq_true, Bool.or_eq_false_iff, Bool.and_eq_false_iff] at hi1 <;> simp only [go_sem, Nat.reduceAdd, Nat.reduceSub, Nat.reduceMul, Nat.reduceEqDiff, Nat.reduceLT, Nat.reduceLeDiff, Nat.reduceBEq, reduceIte, reduceCtorEq, Int.reduceToNat, Int.reduceLE, Int.reduceLT, Int.reduceBEq, Int.reduceBNe]
    · have hlt : i < gs.length := by omega
      have hi0 : (0 : Int) ≤ (i : Int) := by omega
      have hget : (els gs).getD i [] = [.int .i64 gs[i].fr, .int .i64 gs[i].to] := by rw [els_getD hlt, cel_gp]
      have he := hG.each i hlt
      have hla : last ≤ gs[i].fr ∧ (i = 0 ∨ last < gs[i].fr) := by
        obtain ⟨h1, h2⟩ := hlast hlt
        rcases Nat.eq_zero_or_pos i with h | h
        · exact ⟨h1, .inl h⟩
        · exact ⟨h1, .inr (h2 h)⟩
      have hts : total (gs.take (i + 1)) = total (gs.take i) + (gs[i].to - gs[i].fr) := by
        rw [take_succ hlt, total_append]; simp only [total]; omega
      simp only [go_sem, Nat.reduceAdd, Nat.reduceSub, Nat.reduceMul, Nat.reduceEqDiff, Nat.reduceLT, Nat.reduceLeDiff, Nat.reduceBEq, reduceIte, reduceCtorEq, Int.reduceToNat, Int.reduceLE, Int.reduceLT, Int.reduceBEq, Int.reduceBNe, a8, a8r0, a8r1, a8r2, a8r3, a8r4, a8r5, a8r6, a8r7, a8r8, a8r9, a8r10, a8r11, a8r12, a8r13, hi0, hi1, hget]
      repeat' (first | (refine grdC_intro ?_ ?_ <;> intro hg <;> (have hp := hg; try simp only [decide_eq_true_eq, decide_eq_false_iff_not, beq_iff_eq, beq_eq_false_iff_ne, bne_iff_ne, bne_eq_false_iff_eq, Bool.not_eq_true', Bool.not_eq_false', Int.not_lt, Int.not_le, ne_eq, Bool.and_eq_true, Bool.or_eq_true, Bool.or_eq_false_iff, Bool.and_eq_false_iff] at hp) <;> (first | omega | (simp only [go_sem, Nat.reduceAdd, Nat.reduceSub, Nat.reduceMul, Nat.reduceEqDiff, Nat.reduceLT, Nat.reduceLeDiff, Nat.reduceBEq, reduceIte, reduceCtorEq, Int.reduceToNat, Int.reduceLE, Int.reduceLT, Int.reduceBEq, Int.reduceBNe, hg, a8, a8r0, a8r1, a8r2, a8r3, a8r4, a8r5, a8r6, a8r7, a8r8, a8r9, a8r10, a8r11, a8r12, a8r13, hi0, hi1, hget]; clear hg))) | (refine grdD_intro ?_ ?_ <;> intro hg <;> (have hp := hg; try simp only [decide_eq_true_eq, decide_eq_false_iff_not, beq_iff_eq, beq_eq_false_iff_ne, bne_iff_ne, bne_eq_false_iff_eq, Bool.not_eq_true', Bool.not_eq_false', Int.not_lt, Int.not_le, ne_eq, Bool.and_eq_true, Bool.or_eq_true, Bool.or_eq_false_iff, Bool.and_eq_false_iff] at hp) <;> (first | omega | (simp only [go_sem, Nat.reduceAdd, Nat.reduceSub, Nat.reduceMul, Nat.reduceEqDiff, Nat.reduceLT, Nat.reduceLeDiff, Nat.reduceBEq, reduceIte, reduceCtorEq, Int.reduceToNat, Int.reduceLE, Int.reduceLT, Int.reduceBEq, Int.reduceBNe, hg, a8, a8r0, a8r1, a8r2, a8r3, a8r4, a8r5, a8r6, a8r7, a8r8, a8r9, a8r10, a8r11, a8r12, a8r13, hi0, hi1, hget]; clear hg))) | (refine condC_intro ?_ ?_ <;> intro hg <;> (have hp := hg; try simp only [decide_eq_true_eq, decide_eq_false_iff_not, beq_iff_eq, beq_eq_false_iff_ne, bne_iff_ne, bne_eq_false_iff_eq, Bool.not_eq_true', Bool.not_eq_false', Int.not_lt, Int.not_le, ne_eq, Bool.and_eq_true, Bool.or_eq_true, Bool.or_eq_false_iff, Bool.and_eq_false_iff] at hp) <;> (first | omega | (simp only [go_sem, Nat.reduceAdd, Nat.reduceSub, Nat.reduceMul, Nat.reduceEqDiff, Nat.reduceLT, Nat.reduceLeDiff, Nat.reduceBEq, reduceIte, reduceCtorEq, Int.reduceToNat, Int.reduceLE, Int.reduceLT, Int.reduceBEq, Int.reduceBNe, hg, a8, a8r0, a8r1, a8r2, a8r3, a8r4, a8r5, a8r6, a8r7, a8r8, a8r9, a8r10, a8r11, a8r12, a8r13, hi0, hi1, hget]; clear hg))))
      all_goals (
        simp (disch := omega) only [wrap_i64, wrap_u8, wrap_u16]
        refine Cl.here ⟨⟨i + 1, gs[i].to, by omega, ?_, rfl, by omega, by omega, by omega, by omega, fun h => ?_⟩, ?_⟩
        · rw [hts]
          have e9 : 24 * (X.1.length : Int) + total (gs.take i) + gs[i].to - gs[i].fr = 24 * X.1.length + (total (gs.take i) + (gs[i].to - gs[i].fr)) := by omega
          rw [e9]; rfl
        · have := hG.next i h
          omega
        · simp only [go_sem, Nat.reduceAdd, Nat.reduceSub, Nat.reduceMul, Nat.reduceEqDiff, Nat.reduceLT, Nat.reduceLeDiff, Nat.reduceBEq, reduceIte, reduceCtorEq, Int.reduceToNat, Int.reduceLE, Int.reduceLT, Int.reduceBEq, Int.reduceBNe]
          omega)
    · have hie : i = gs.length := by omega
      subst hie
      rw [List.take_length] at *
      have hw : IntKind.i64.wrap ((b.length : Int) - (n : Int)) = b.length - n := wrap_i64 (by omega) (by omega)
      simp only [go_sem, Nat.reduceAdd, Nat.reduceSub, Nat.reduceMul, Nat.reduceEqDiff, Nat.reduceLT, Nat.reduceLeDiff, Nat.reduceBEq, reduceIte, reduceCtorEq, Int.reduceToNat, Int.reduceLE, Int.reduceLT, Int.reduceBEq, Int.reduceBNe, a8, a8r0, a8r1, a8r2, a8r3, a8r4, a8r5, a8r6, a8r7, a8r8, a8r9, a8r10, a8r11, a8r12, a8r13, hT, hw]
      repeat' (first | (refine grdC_intro ?_ ?_ <;> intro hg <;> (have hp := hg; try simp only [decide_eq_true_eq, decide_eq_false_iff_not, beq_iff_eq, beq_eq_false_iff_ne, bne_iff_ne, bne_eq_false_iff_eq, Bool.not_eq_true', Bool.not_eq_false', Int.not_lt, Int.not_le, ne_eq, Bool.and_eq_true, Bool.or_eq_true, Bool.or_eq_false_iff, Bool.and_eq_false_iff] at hp) <;> (first | omega | (simp only [go_sem, Nat.reduceAdd, Nat.reduceSub, Nat.reduceMul, Nat.reduceEqDiff, Nat.reduceLT, Nat.reduceLeDiff, Nat.reduceBEq, reduceIte, reduceCtorEq, Int.reduceToNat, Int.reduceLE, Int.reduceLT, Int.reduceBEq, Int.reduceBNe, hg, a8, a8r0, a8r1, a8r2, a8r3, a8r4, a8r5, a8r6, a8r7, a8r8, a8r9, a8r10, a8r11, a8r12, a8r13, hw]; clear hg))) | (refine grdD_intro ?_ ?_ <;> intro hg <;> (have hp := hg; try simp only [decide_eq_true_eq, decide_eq_false_iff_not, beq_iff_eq, beq_eq_false_iff_ne, bne_iff_ne, bne_eq_false_iff_eq, Bool.not_eq_true', Bool.not_eq_false', Int.not_lt, Int.not_le, ne_eq, Bool.and_eq_true, Bool.or_eq_true, Bool.or_eq_false_iff, Bool.and_eq_false_iff] at hp) <;> (first | omega | (simp only [go_sem, Nat.reduceAdd, Nat.reduceSub, Nat.reduceMul, Nat.reduceEqDiff, Nat.reduceLT, Nat.reduceLeDiff, Nat.reduceBEq, reduceIte, reduceCtorEq, Int.reduceToNat, Int.reduceLE, Int.reduceLT, Int.reduceBEq, Int.reduceBNe, hg, a8, a8r0, a8r1, a8r2, a8r3, a8r4, a8r5, a8r6, a8r7, a8r8, a8r9, a8r10, a8r11, a8r12, a8r13, hw]; clear hg))) | (refine condC_intro ?_ ?_ <;> intro hg <;> (have hp := hg; try simp only [decide_eq_true_eq, decide_eq_false_iff_not, beq_iff_eq, beq_eq_false_iff_ne, bne_iff_ne, bne_eq_false_iff_eq, Bool.not_eq_true', Bool.not_eq_false', Int.not_lt, Int.not_le, ne_eq, Bool.and_eq_true, Bool.or_eq_true, Bool.or_eq_false_iff, Bool.and_eq_false_iff] at hp) <;> (first | omega | (simp only [go_sem, Nat.reduceAdd, Nat.reduceSub, Nat.reduceMul, Nat.reduceEqDiff, Nat.reduceLT, Nat.reduceLeDiff, Nat.reduceBEq, reduceIte, reduceCtorEq, Int.reduceToNat, Int.reduceLE, Int.reduceLT, Int.reduceBEq, Int.reduceBNe, hg, a8, a8r0, a8r1, a8r2, a8r3, a8r4, a8r5, a8r6, a8r7, a8r8, a8r9, a8r10, a8r11, a8r12, a8r13, hw]; clear hg))))
      refine callC_det sane_ok rfl rfl ?_
      simp only [go_sem, Nat.reduceAdd, Nat.reduceSub, Nat.reduceMul, Nat.reduceEqDiff, Nat.reduceLT, Nat.reduceLeDiff, Nat.reduceBEq, reduceIte, reduceCtorEq, Int.reduceToNat, Int.reduceLE, Int.reduceLT, Int.reduceBEq, Int.reduceBNe]
      exact Cl.fin rfl rfl
end Go.Proofs.Ytkgffhjlfdmfeaa
