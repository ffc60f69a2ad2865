/- PresenceSound: made stamps, has. -/
import Derived.Test.YtjacobmkfkmdiaaA2Sane
set_option linter.unusedSimpArgs false
set_option linter.unusedVariables false
set_option linter.unusedSectionVars false
namespace Go.Proofs.Ytjacobmkfkmdiaa
open Go Go.Abs
set_option linter.unusedSimpArgs false

def lastT : Int → List Stamp → Int
  | b, [] => b
  | _, s :: r => lastT s.time r
theorem lastT_snoc : ∀ {l : List Stamp} {b : Int} {e : Stamp}, lastT b (l ++ [e]) = e.time
  | [], _, _ => rfl
  | s :: r, _, e => by rw [List.cons_append, lastT, lastT_snoc]
theorem sOk_snoc : ∀ {l : List Stamp} {b : Int} {e : Stamp}, sOk b l = true → lastT b l ≤ e.time → 1 ≤ e.kind → e.kind ≤ 4 → e.time ≤ 120968639 → sOk b (l ++ [e]) = true
  | [], b, e, _, h1, h2, h3, h4 => by
    simp only [lastT] at h1
    simp only [List.nil_append, sOk, Bool.and_true, decide_eq_true_eq]
    omega
  | s :: r, b, e, h, h1, h2, h3, h4 => by
    simp only [sOk, Bool.and_eq_true] at h
    simp only [List.cons_append, sOk, Bool.and_eq_true]
    exact ⟨h.1, sOk_snoc h.2 h1 h2 h3 h4⟩

theorem stamps_ok (l : List Int) (hl : TapeOk l) (n : Int) (hn0 : 0 ≤ n) (hn : n ≤ 1000) (at_ : Int) (h0 : 0 ≤ at_) (h1 : at_ ≤ l.length) : AFn Try.prog 25 [.ref 0 1 0 0, .int .i64 n] [tp l at_]
    (fun v rs => ∃ (a : Int) (es : List Stamp), v = .own 1 es.length 0 es.length ∧ rs = [tp l a, .live 34 4 (els es)] ∧ 0 ≤ a ∧ a ≤ l.length ∧ es.length ≤ n ∧ sOk 0 es = true) := by
  refine afn Try.func25 a25_ok (by simp [a25]) ?_
  simp only [go_sem, Nat.reduceAdd, Nat.reduceSub, Nat.reduceMul, Nat.reduceEqDiff, Nat.reduceLT, Nat.reduceLeDiff, Nat.reduceBEq, reduceIte, reduceCtorEq, Int.reduceToNat, Int.reduceLE, Int.reduceLT, Int.reduceBEq, Int.reduceBNe, a25, a25r0, a25r1, a25r2, a25r3, a25r4, a25r5, a25r6, a25r7, a25r8, tp]
  simp (disch := omega) only [wrap_i64, wrap_u8, wrap_u16]
  (refine callC_tape (next_ok l hl (n + 1) (by omega)) rfl rfl (by omega) (by omega) ?_; rintro _ at_ _ _ ⟨ k, rfl, _, _⟩; simp only [go_sem, Nat.reduceAdd, Nat.reduceSub, Nat.reduceMul, Nat.reduceEqDiff, Nat.reduceLT, Nat.reduceLeDiff, Nat.reduceBEq, reduceIte, reduceCtorEq, Int.reduceToNat, Int.reduceLE, Int.reduceLT, Int.reduceBEq, Int.reduceBNe])
  refine avc_loop (fun env rows => ∃ (a : Int) (es : List Stamp) (j t : Int), env = [(0, .ref 0 1 0 0), (5, .int .i64 t), (6, .own 1 es.length 0 es.length), (7, .int .i64 j)] ∧ rows = [tapeRow 100 l a, .live 34 4 (els es)] ∧ 0 ≤ a ∧ a ≤ l.length ∧ 0 ≤ j ∧ es.length + j ≤ n ∧ sOk 0 es = true ∧ lastT 0 es ≤ t ∧ 0 ≤ t ∧ t + 720 * j ≤ 29453760 + 720 * n)
    (fun env _ => match slot env 7 with | .int _ j => j.toNat | _ => 0) ?_ ?_
  · (refine Cl.ghost 6  34  4 rfl (Cl.norm [ 0, 5, 6, 7] ?_); simp only [go_sem, Nat.reduceAdd, Nat.reduceSub, Nat.reduceMul, Nat.reduceEqDiff, Nat.reduceLT, Nat.reduceLeDiff, Nat.reduceBEq, reduceIte, reduceCtorEq, Int.reduceToNat, Int.reduceLE, Int.reduceLT, Int.reduceBEq, Int.reduceBNe])
    exact Cl.here ⟨at_, [], k, 29453760, rfl, rfl, by omega, by omega, by omega, by simp; omega, rfl, by simp [lastT], by omega, by omega⟩
  · rintro env rows ⟨at_, es, j, t, rfl, rfl, _, _, _, _, hes, hla, _, _⟩
    simp only [go_sem, Nat.reduceAdd, Nat.reduceSub, Nat.reduceMul, Nat.reduceEqDiff, Nat.reduceLT, Nat.reduceLeDiff, Nat.reduceBEq, reduceIte, reduceCtorEq, Int.reduceToNat, Int.reduceLE, Int.reduceLT, Int.reduceBEq, Int.reduceBNe, a25, a25r0, a25r1, a25r2, a25r3, a25r4, a25r5, a25r6, a25r7, a25r8]
    refine condC_intro ?_ ?_ <;> intro hg <;> simp only [decide_eq_true_eq, decide_eq_false_iff_not, beq_iff_eq, beq_eq_false_iff_ne, bne_iff_ne, bne_eq_false_iff_eq, Bool.not_eq_true', Bool.not_eq_false', Int.not_lt, Int.not_le, ne_eq, Bool.and_eq_true, Bool.or_eq_true, Bool.or_eq_false_iff, Bool.and_eq_false_iff] at hg <;> simp only [go_sem, Nat.reduceAdd, Nat.reduceSub, Nat.reduceMul, Nat.reduceEqDiff, Nat.reduceLT, Nat.reduceLeDiff, Nat.reduceBEq, reduceIte, reduceCtorEq, Int.reduceToNat, Int.reduceLE, Int.reduceLT, Int.reduceBEq, Int.reduceBNe, a25, a25r0, a25r1, a25r2, a25r3, a25r4, a25r5, a25r6, a25r7, a25r8]
    · (refine callC_pick [0, 30, 240, 480, 1, 720] (pick_ok l hl _ (by simp) (by simp)) rfl rfl rfl rfl rfl (by decide) (by omega) (by omega) ?_; rintro _ at_ _ _ ⟨d, hmem, rfl⟩; simp only [List.mem_cons, List.not_mem_nil, or_false] at hmem; simp only [go_sem, Nat.reduceAdd, Nat.reduceSub, Nat.reduceMul, Nat.reduceEqDiff, Nat.reduceLT, Nat.reduceLeDiff, Nat.reduceBEq, reduceIte, reduceCtorEq, Int.reduceToNat, Int.reduceLE, Int.reduceLT, Int.reduceBEq, Int.reduceBNe])
      have hd : 0 ≤ d ∧ d ≤ 720 := by omega
      clear hmem
      rw [wrap_i64 (by omega) (by omega)]
      (refine callC_tape (next_ok l hl 4 (by omega)) rfl rfl (by omega) (by omega) ?_; rintro _ at_ _ _ ⟨ x, rfl, _, _⟩; simp only [go_sem, Nat.reduceAdd, Nat.reduceSub, Nat.reduceMul, Nat.reduceEqDiff, Nat.reduceLT, Nat.reduceLeDiff, Nat.reduceBEq, reduceIte, reduceCtorEq, Int.reduceToNat, Int.reduceLE, Int.reduceLT, Int.reduceBEq, Int.reduceBNe])
      rw [wrap_i64 (x := 1 + x) (by omega) (by omega)]
      refine callC_tape (key_ok l hl) rfl rfl (by omega) (by omega) ?_
      rintro _ at_ _ _ ⟨kt, ks, rfl, _, _, _, _⟩
      simp only [go_sem, Nat.reduceAdd, Nat.reduceSub, Nat.reduceMul, Nat.reduceEqDiff, Nat.reduceLT, Nat.reduceLeDiff, Nat.reduceBEq, reduceIte, reduceCtorEq, Int.reduceToNat, Int.reduceLE, Int.reduceLT, Int.reduceBEq, Int.reduceBNe]
      refine ⟨by omega, ?_⟩
      rw [wrap_i64 (by omega) (by omega)]
      (refine Cl.tr [some 0, some 1] [] rfl rfl (by simp only [go_sem, Nat.reduceAdd, Nat.reduceSub, Nat.reduceMul, Nat.reduceEqDiff, Nat.reduceLT, Nat.reduceLeDiff, Nat.reduceBEq, reduceIte, reduceCtorEq, Int.reduceToNat, Int.reduceLE, Int.reduceLT, Int.reduceBEq, Int.reduceBNe] <;> rfl) ?_; simp only [go_sem, Nat.reduceAdd, Nat.reduceSub, Nat.reduceMul, Nat.reduceEqDiff, Nat.reduceLT, Nat.reduceLeDiff, Nat.reduceBEq, reduceIte, reduceCtorEq, Int.reduceToNat, Int.reduceLE, Int.reduceLT, Int.reduceBEq, Int.reduceBNe])
      refine Cl.here ⟨⟨at_, es ++ [⟨t + d, 1 + x, kt, ks⟩], j - 1, t + d, by simp, rfl, by omega, by omega, by omega, by simp; omega, ?_, ?_, by omega, by omega⟩, ?_⟩
      · exact sOk_snoc hes (by simp only; omega) (by simp only; omega) (by simp only; omega) (by simp only; omega)
      · rw [lastT_snoc]; simp
      · simp only [go_sem, Nat.reduceAdd, Nat.reduceSub, Nat.reduceMul, Nat.reduceEqDiff, Nat.reduceLT, Nat.reduceLeDiff, Nat.reduceBEq, reduceIte, reduceCtorEq, Int.reduceToNat, Int.reduceLE, Int.reduceLT, Int.reduceBEq, Int.reduceBNe]
        omega
    · exact Cl.here ⟨at_, es, rfl, rfl, by omega, by omega, by omega, hes⟩

def hasS (l : List Stamp) (t k : Int) : Bool := l.any fun s => decide (s.time = t) && decide (s.kind = k)
theorem hasS_cons {s : Stamp} {r : List Stamp} {t k : Int} : hasS (s :: r) t k = ((decide (s.time = t) && decide (s.kind = k)) || hasS r t k) := rfl
theorem has_ok (l : List Stamp) (hl : l.length ≤ 9223372036854775806) (t k : Int) : AFn Try.prog 26 [.pure 4 (els l), .int .i64 t, .int .i64 k] [] (fun v rs => v = .bool (hasS l t k) ∧ rs = []) := by
  refine afn Try.func26 a26_ok (by simp [a26]) ?_
  simp only [go_sem, Nat.reduceAdd, Nat.reduceSub, Nat.reduceMul, Nat.reduceEqDiff, Nat.reduceLT, Nat.reduceLeDiff, Nat.reduceBEq, reduceIte, reduceCtorEq, Int.reduceToNat, Int.reduceLE, Int.reduceLT, Int.reduceBEq, Int.reduceBNe, a26, a26r0, a26r1, a26r2, a26r3, a26r4, a26r5, a26r6]
  refine avc_loop (fun env rows => ∃ i : Nat, i ≤ l.length ∧ hasS l t k = hasS (l.drop i) t k ∧ env = [(0, .pure 4 (els l)), (1, .int .i64 t), (2, .int .i64 k), (7, .int .i64 i)] ∧ rows = [])
    (fun env _ => match slot env 7 with | .int _ j => (l.length - j).toNat | _ => 0) ?_ ?_
  · exact Cl.here ⟨0, by omega, rfl, rfl, rfl⟩
  · rintro env rows ⟨i, hi, hh, rfl, rfl⟩
    simp only [go_sem, Nat.reduceAdd, Nat.reduceSub, Nat.reduceMul, Nat.reduceEqDiff, Nat.reduceLT, Nat.reduceLeDiff, Nat.reduceBEq, reduceIte, reduceCtorEq, Int.reduceToNat, Int.reduceLE, Int.reduceLT, Int.reduceBEq, Int.reduceBNe, a26, a26r0, a26r1, a26r2, a26r3, a26r4, a26r5, a26r6]
    refine condC_intro ?_ ?_ <;> intro hg <;> simp only [decide_eq_true_eq, decide_eq_false_iff_not, beq_iff_eq, beq_eq_false_iff_ne, bne_iff_ne, bne_eq_false_iff_eq, Bool.not_eq_true', Bool.not_eq_false', Int.not_lt, Int.not_le, ne_eq, Bool.and_eq_true, Bool.or_eq_true, Bool.or_eq_false_iff, Bool.and_eq_false_iff] at hg <;> simp only [go_sem, Nat.reduceAdd, Nat.reduceSub, Nat.reduceMul, Nat.reduceEqDiff, Nat.reduceLT, Nat.reduceLeDiff, Nat.reduceBEq, reduceIte, reduceCtorEq, Int.reduceToNat, Int.reduceLE, Int.reduceLT, Int.reduceBEq, Int.reduceBNe, a26, a26r0, a26r1, a26r2, a26r3, a26r4, a26r5, a26r6]
    · have hlt : i < l.length := by omega
      have hi0 : (0 : Int) ≤ i := by omega
      have hi1 : (i : Int) < l.length := by omega
      have hget : (els l).getD i [] = Cel.c l[i] := els_getD (by omega)
      rw [drop_cons hlt, hasS_cons] at hh
      refine ⟨hi0, hi1, ?_⟩
      rw [hget]
      have hw : IntKind.i64.wrap ((i : Int) + 1) = ((i + 1 : Nat) : Int) := by rw [wrap_i64 (by omega) (by omega)]; omega
      simp only [go_sem, Nat.reduceAdd, Nat.reduceSub, Nat.reduceMul, Nat.reduceEqDiff, Nat.reduceLT, Nat.reduceLeDiff, Nat.reduceBEq, reduceIte, reduceCtorEq, Int.reduceToNat, Int.reduceLE, Int.reduceLT, Int.reduceBEq, Int.reduceBNe, cel_stamp]
      repeat' (first | (refine grdC_intro ?_ ?_ <;> intro hg <;> (have hp := hg; try simp only [decide_eq_true_eq, decide_eq_false_iff_not, beq_iff_eq, beq_eq_false_iff_ne, bne_iff_ne, bne_eq_false_iff_eq, Bool.not_eq_true', Bool.not_eq_false', Int.not_lt, Int.not_le, ne_eq, Bool.and_eq_true, Bool.or_eq_true, Bool.or_eq_false_iff, Bool.and_eq_false_iff] at hp) <;> (first | omega | (simp only [go_sem, Nat.reduceAdd, Nat.reduceSub, Nat.reduceMul, Nat.reduceEqDiff, Nat.reduceLT, Nat.reduceLeDiff, Nat.reduceBEq, reduceIte, reduceCtorEq, Int.reduceToNat, Int.reduceLE, Int.reduceLT, Int.reduceBEq, Int.reduceBNe, hg, a26, a26r0, a26r1, a26r2, a26r3, a26r4, a26r5, a26r6, hi0, hi1, hget, cel_stamp, hw]; clear hg))) | (refine grdD_intro ?_ ?_ <;> intro hg <;> (have hp := hg; try simp only [decide_eq_true_eq, decide_eq_false_iff_not, beq_iff_eq, beq_eq_false_iff_ne, bne_iff_ne, bne_eq_false_iff_eq, Bool.not_eq_true', Bool.not_eq_false', Int.not_lt, Int.not_le, ne_eq, Bool.and_eq_true, Bool.or_eq_true, Bool.or_eq_false_iff, Bool.and_eq_false_iff] at hp) <;> (first | omega | (simp only [go_sem, Nat.reduceAdd, Nat.reduceSub, Nat.reduceMul, Nat.reduceEqDiff, Nat.reduceLT, Nat.reduceLeDiff, Nat.reduceBEq, reduceIte, reduceCtorEq, Int.reduceToNat, Int.reduceLE, Int.reduceLT, Int.reduceBEq, Int.reduceBNe, hg, a26, a26r0, a26r1, a26r2, a26r3, a26r4, a26r5, a26r6, hi0, hi1, hget, cel_stamp, hw]; clear hg))) | (refine condC_intro ?_ ?_ <;> intro hg <;> (have hp := hg; try simp only [decide_eq_true_eq, decide_eq_false_iff_not, beq_iff_eq, beq_eq_false_iff_ne, bne_iff_ne, bne_eq_false_iff_eq, Bool.not_eq_true', Bool.not_eq_false', Int.not_lt, Int.not_le, ne_eq, Bool.and_eq_true, Bool.or_eq_true, Bool.or_eq_false_iff, Bool.and_eq_false_iff] at hp) <;> (first | omega | (simp only [go_sem, Nat.reduceAdd, Nat.reduceSub, Nat.reduceMul, Nat.reduceEqDiff, Nat.reduceLT, Nat.reduceLeDiff, Nat.reduceBEq, reduceIte, reduceCtorEq, Int.reduceToNat, Int.reduceLE, Int.reduceLT, Int.reduceBEq, Int.reduceBNe, hg, a26, a26r0, a26r1, a26r2, a26r3, a26r4, a26r5, a26r6, hi0, hi1, hget, cel_stamp, hw]; clear hg))) | (refine condW_intro ?_ ?_ <;> intro hg <;> (have hp := hg; try simp only [decide_eq_true_eq, decide_eq_false_iff_not, beq_iff_eq, beq_eq_false_iff_ne, bne_iff_ne, bne_eq_false_iff_eq, Bool.not_eq_true', Bool.not_eq_false', Int.not_lt, Int.not_le, ne_eq, Bool.and_eq_true, Bool.or_eq_true, Bool.or_eq_false_iff, Bool.and_eq_false_iff] at hp) <;> (first | omega | (simp only [go_sem, Nat.reduceAdd, Nat.reduceSub, Nat.reduceMul, Nat.reduceEqDiff, Nat.reduceLT, Nat.reduceLeDiff, Nat.reduceBEq, reduceIte, reduceCtorEq, Int.reduceToNat, Int.reduceLE, Int.reduceLT, Int.reduceBEq, Int.reduceBNe, hg, a26, a26r0, a26r1, a26r2, a26r3, a26r4, a26r5, a26r6, hi0, hi1, hget, cel_stamp, hw]; clear hg))))
      · exact Cl.fin rfl ⟨by rw [hh]; simp_all, rfl⟩
      · refine Cl.here ⟨⟨i + 1, by omega, by rw [hh]; simp_all, rfl, rfl⟩, ?_⟩
        simp only [go_sem, Nat.reduceAdd, Nat.reduceSub, Nat.reduceMul, Nat.reduceEqDiff, Nat.reduceLT, Nat.reduceLeDiff, Nat.reduceBEq, reduceIte, reduceCtorEq, Int.reduceToNat, Int.reduceLE, Int.reduceLT, Int.reduceBEq, Int.reduceBNe]
        omega
      · refine Cl.here ⟨⟨i + 1, by omega, by rw [hh]; simp_all, rfl, rfl⟩, ?_⟩
        simp only [go_sem, Nat.reduceAdd, Nat.reduceSub, Nat.reduceMul, Nat.reduceEqDiff, Nat.reduceLT, Nat.reduceLeDiff, Nat.reduceBEq, reduceIte, reduceCtorEq, Int.reduceToNat, Int.reduceLE, Int.reduceLT, Int.reduceBEq, Int.reduceBNe]
        omega
    · have : i = l.length := by omega
      subst this
      exact Cl.fin rfl ⟨by rw [hh]; simp [hasS], rfl⟩

end Go.Proofs.Ytjacobmkfkmdiaa
