/- check and Pair. -/
import Derived.Test.YtjacobmkfkmdiaaA2Pair
set_option linter.unusedSimpArgs false
set_option linter.unusedVariables false
set_option linter.unusedSectionVars false
namespace Go.Proofs.Ytjacobmkfkmdiaa
open Go Go.Abs
set_option linter.unusedSimpArgs false

def sOk : Int → List Stamp → Bool
  | _, [] => true
  | b, s :: r => decide (1 ≤ s.kind ∧ s.kind ≤ 4 ∧ b ≤ s.time ∧ s.time ≤ 120968639) && sOk s.time r
def pcheck (l : List Stamp) (n : Int) : Int := if 1024 < l.length then 3 else if n < 1 ∨ 10080 < n then 2 else if sOk 0 l then 0 else 1

theorem drop_cons {α : Type} {l : List α} {i : Nat} (h : i < l.length) : l.drop i = l[i] :: l.drop (i + 1) := List.drop_eq_getElem_cons h

theorem check_ok (l : List Stamp) (n : Int) (hl : l.length ≤ 9223372036854775806) : AFn Try.prog 47 [.pure 4 (els l), .int .i64 n] [] (fun v rs => v = .int .i64 (pcheck l n) ∧ rs = []) := by
  refine afn Try.func47 a47_ok (by simp [a47]) ?_
  simp only [go_sem, Nat.reduceAdd, Nat.reduceSub, Nat.reduceMul, Nat.reduceEqDiff, Nat.reduceLT, Nat.reduceLeDiff, Nat.reduceBEq, reduceIte, reduceCtorEq, Int.reduceToNat, Int.reduceLE, Int.reduceLT, Int.reduceBEq, Int.reduceBNe, a47, a47r0, a47r1, a47r2, a47r3, a47r4, a47r5, a47r6, a47r7, a47r8, a47r9, a47r10, a47r11, a47r12, a47r13]
  refine condC_intro ?_ ?_ <;> intro hg1 <;> simp only [decide_eq_true_eq, decide_eq_false_iff_not, beq_iff_eq, beq_eq_false_iff_ne, bne_iff_ne, bne_eq_false_iff_eq, Bool.not_eq_true', Bool.not_eq_false', Int.not_lt, Int.not_le, ne_eq, Bool.and_eq_true, Bool.or_eq_true, Bool.or_eq_false_iff, Bool.and_eq_false_iff] at hg1 <;> simp only [go_sem, Nat.reduceAdd, Nat.reduceSub, Nat.reduceMul, Nat.reduceEqDiff, Nat.reduceLT, Nat.reduceLeDiff, Nat.reduceBEq, reduceIte, reduceCtorEq, Int.reduceToNat, Int.reduceLE, Int.reduceLT, Int.reduceBEq, Int.reduceBNe, a47, a47r0, a47r1, a47r2, a47r3, a47r4, a47r5, a47r6, a47r7, a47r8, a47r9, a47r10, a47r11, a47r12, a47r13]
  · exact Cl.fin rfl ⟨by rw [pcheck, if_pos (by omega)], rfl⟩
  repeat' (first | (refine grdC_intro ?_ ?_ <;> intro hg <;> (have hp := hg; try simp only [decide_eq_true_eq, decide_eq_false_iff_not, beq_iff_eq, beq_eq_false_iff_ne, bne_iff_ne, bne_eq_false_iff_eq, Bool.not_eq_true', Bool.not_eq_false', Int.not_lt, Int.not_le, ne_eq, Bool.and_eq_true, Bool.or_eq_true, Bool.or_eq_false_iff, Bool.and_eq_false_iff] at hp) <;> (first | omega | (simp only [go_sem, Nat.reduceAdd, Nat.reduceSub, Nat.reduceMul, Nat.reduceEqDiff, Nat.reduceLT, Nat.reduceLeDiff, Nat.reduceBEq, reduceIte, reduceCtorEq, Int.reduceToNat, Int.reduceLE, Int.reduceLT, Int.reduceBEq, Int.reduceBNe, hg, a47, a47r0, a47r1, a47r2, a47r3, a47r4, a47r5, a47r6, a47r7, a47r8, a47r9, a47r10, a47r11, a47r12, a47r13]; clear hg))) | (refine grdD_intro ?_ ?_ <;> intro hg <;> (have hp := hg; try simp only [decide_eq_true_eq, decide_eq_false_iff_not, beq_iff_eq, beq_eq_false_iff_ne, bne_iff_ne, bne_eq_false_iff_eq, Bool.not_eq_true', Bool.not_eq_false', Int.not_lt, Int.not_le, ne_eq, Bool.and_eq_true, Bool.or_eq_true, Bool.or_eq_false_iff, Bool.and_eq_false_iff] at hp) <;> (first | omega | (simp only [go_sem, Nat.reduceAdd, Nat.reduceSub, Nat.reduceMul, Nat.reduceEqDiff, Nat.reduceLT, Nat.reduceLeDiff, Nat.reduceBEq, reduceIte, reduceCtorEq, Int.reduceToNat, Int.reduceLE, Int.reduceLT, Int.reduceBEq, Int.reduceBNe, hg, a47, a47r0, a47r1, a47r2, a47r3, a47r4, a47r5, a47r6, a47r7, a47r8, a47r9, a47r10, a47r11, a47r12, a47r13]; clear hg))) | (refine condC_intro ?_ ?_ <;> intro hg <;> (have hp := hg; try simp only [decide_eq_true_eq, decide_eq_false_iff_not, beq_iff_eq, beq_eq_false_iff_ne, bne_iff_ne, bne_eq_false_iff_eq, Bool.not_eq_true', Bool.not_eq_false', Int.not_lt, Int.not_le, ne_eq, Bool.and_eq_true, Bool.or_eq_true, Bool.or_eq_false_iff, Bool.and_eq_false_iff] at hp) <;> (first | omega | (simp only [go_sem, Nat.reduceAdd, Nat.reduceSub, Nat.reduceMul, Nat.reduceEqDiff, Nat.reduceLT, Nat.reduceLeDiff, Nat.reduceBEq, reduceIte, reduceCtorEq, Int.reduceToNat, Int.reduceLE, Int.reduceLT, Int.reduceBEq, Int.reduceBNe, hg, a47, a47r0, a47r1, a47r2, a47r3, a47r4, a47r5, a47r6, a47r7, a47r8, a47r9, a47r10, a47r11, a47r12, a47r13]; clear hg))) | (refine condW_intro ?_ ?_ <;> intro hg <;> (have hp := hg; try simp only [decide_eq_true_eq, decide_eq_false_iff_not, beq_iff_eq, beq_eq_false_iff_ne, bne_iff_ne, bne_eq_false_iff_eq, Bool.not_eq_true', Bool.not_eq_false', Int.not_lt, Int.not_le, ne_eq, Bool.and_eq_true, Bool.or_eq_true, Bool.or_eq_false_iff, Bool.and_eq_false_iff] at hp) <;> (first | omega | (simp only [go_sem, Nat.reduceAdd, Nat.reduceSub, Nat.reduceMul, Nat.reduceEqDiff, Nat.reduceLT, Nat.reduceLeDiff, Nat.reduceBEq, reduceIte, reduceCtorEq, Int.reduceToNat, Int.reduceLE, Int.reduceLT, Int.reduceBEq, Int.reduceBNe, hg, a47, a47r0, a47r1, a47r2, a47r3, a47r4, a47r5, a47r6, a47r7, a47r8, a47r9, a47r10, a47r11, a47r12, a47r13]; clear hg))))
  · exact Cl.fin rfl ⟨by rw [pcheck, if_neg (by omega), if_pos (by omega)], rfl⟩
  · exact Cl.fin rfl ⟨by rw [pcheck, if_neg (by omega), if_pos (by omega)], rfl⟩
  have hpc : pcheck l n = if sOk 0 l then 0 else 1 := by rw [pcheck, if_neg (by omega), if_neg (by omega)]
  refine avc_loop (fun env rows => ∃ (i : Nat) (b : Int), i ≤ l.length ∧ sOk 0 l = sOk b (l.drop i) ∧ env = [(5, .int .i64 b), (17, .pure 4 (els l)), (18, .int .i64 l.length), (19, .int .i64 i)] ∧ rows = [])
    (fun env _ => match slot env 19 with | .int _ j => (l.length - j).toNat | _ => 0) ?_ ?_
  · exact Cl.here ⟨0, 0, by omega, by simp, rfl, rfl⟩
  · rintro env rows ⟨i, b, hi, hb, rfl, rfl⟩
    simp only [go_sem, Nat.reduceAdd, Nat.reduceSub, Nat.reduceMul, Nat.reduceEqDiff, Nat.reduceLT, Nat.reduceLeDiff, Nat.reduceBEq, reduceIte, reduceCtorEq, Int.reduceToNat, Int.reduceLE, Int.reduceLT, Int.reduceBEq, Int.reduceBNe, a47, a47r0, a47r1, a47r2, a47r3, a47r4, a47r5, a47r6, a47r7, a47r8, a47r9, a47r10, a47r11, a47r12, a47r13]
    refine condC_intro ?_ ?_ <;> intro hg2 <;> simp only [decide_eq_true_eq, decide_eq_false_iff_not, beq_iff_eq, beq_eq_false_iff_ne, bne_iff_ne, bne_eq_false_iff_eq, Bool.not_eq_true', Bool.not_eq_false', Int.not_lt, Int.not_le, ne_eq, Bool.and_eq_true, Bool.or_eq_true, Bool.or_eq_false_iff, Bool.and_eq_false_iff] at hg2 <;> simp only [go_sem, Nat.reduceAdd, Nat.reduceSub, Nat.reduceMul, Nat.reduceEqDiff, Nat.reduceLT, Nat.reduceLeDiff, Nat.reduceBEq, reduceIte, reduceCtorEq, Int.reduceToNat, Int.reduceLE, Int.reduceLT, Int.reduceBEq, Int.reduceBNe, a47, a47r0, a47r1, a47r2, a47r3, a47r4, a47r5, a47r6, a47r7, a47r8, a47r9, a47r10, a47r11, a47r12, a47r13]
    · have hlt : i < l.length := by omega
      refine ⟨by omega, by omega, ?_⟩
      try simp only [Int.toNat_natCast]
      rw [els_getD hlt, cel_stamp]
      rw [drop_cons hlt, sOk] at hb
      have hw : IntKind.i64.wrap ((i : Int) + 1) = ((i + 1 : Nat) : Int) := by rw [wrap_i64 (by omega) (by omega)]; omega
      simp only [go_sem, Nat.reduceAdd, Nat.reduceSub, Nat.reduceMul, Nat.reduceEqDiff, Nat.reduceLT, Nat.reduceLeDiff, Nat.reduceBEq, reduceIte, reduceCtorEq, Int.reduceToNat, Int.reduceLE, Int.reduceLT, Int.reduceBEq, Int.reduceBNe, a47, a47r0, a47r1, a47r2, a47r3, a47r4, a47r5, a47r6, a47r7, a47r8, a47r9, a47r10, a47r11, a47r12, a47r13]
      repeat' (first | (refine grdC_intro ?_ ?_ <;> intro hg <;> (have hp := hg; try simp only [decide_eq_true_eq, decide_eq_false_iff_not, beq_iff_eq, beq_eq_false_iff_ne, bne_iff_ne, bne_eq_false_iff_eq, Bool.not_eq_true', Bool.not_eq_false', Int.not_lt, Int.not_le, ne_eq, Bool.and_eq_true, Bool.or_eq_true, Bool.or_eq_false_iff, Bool.and_eq_false_iff] at hp) <;> (first | omega | (simp only [go_sem, Nat.reduceAdd, Nat.reduceSub, Nat.reduceMul, Nat.reduceEqDiff, Nat.reduceLT, Nat.reduceLeDiff, Nat.reduceBEq, reduceIte, reduceCtorEq, Int.reduceToNat, Int.reduceLE, Int.reduceLT, Int.reduceBEq, Int.reduceBNe, hg, a47, a47r0, a47r1, a47r2, a47r3, a47r4, a47r5, a47r6, a47r7, a47r8, a47r9, a47r10, a47r11, a47r12, a47r13, hw]; clear hg))) | (refine grdD_intro ?_ ?_ <;> intro hg <;> (have hp := hg; try simp only [decide_eq_true_eq, decide_eq_false_iff_not, beq_iff_eq, beq_eq_false_iff_ne, bne_iff_ne, bne_eq_false_iff_eq, Bool.not_eq_true', Bool.not_eq_false', Int.not_lt, Int.not_le, ne_eq, Bool.and_eq_true, Bool.or_eq_true, Bool.or_eq_false_iff, Bool.and_eq_false_iff] at hp) <;> (first | omega | (simp only [go_sem, Nat.reduceAdd, Nat.reduceSub, Nat.reduceMul, Nat.reduceEqDiff, Nat.reduceLT, Nat.reduceLeDiff, Nat.reduceBEq, reduceIte, reduceCtorEq, Int.reduceToNat, Int.reduceLE, Int.reduceLT, Int.reduceBEq, Int.reduceBNe, hg, a47, a47r0, a47r1, a47r2, a47r3, a47r4, a47r5, a47r6, a47r7, a47r8, a47r9, a47r10, a47r11, a47r12, a47r13, hw]; clear hg))) | (refine condC_intro ?_ ?_ <;> intro hg <;> (have hp := hg; try simp only [decide_eq_true_eq, decide_eq_false_iff_not, beq_iff_eq, beq_eq_false_iff_ne, bne_iff_ne, bne_eq_false_iff_eq, Bool.not_eq_true', Bool.not_eq_false', Int.not_lt, Int.not_le, ne_eq, Bool.and_eq_true, Bool.or_eq_true, Bool.or_eq_false_iff, Bool.and_eq_false_iff] at hp) <;> (first | omega | (simp only [go_sem, Nat.reduceAdd, Nat.reduceSub, Nat.reduceMul, Nat.reduceEqDiff, Nat.reduceLT, Nat.reduceLeDiff, Nat.reduceBEq, reduceIte, reduceCtorEq, Int.reduceToNat, Int.reduceLE, Int.reduceLT, Int.reduceBEq, Int.reduceBNe, hg, a47, a47r0, a47r1, a47r2, a47r3, a47r4, a47r5, a47r6, a47r7, a47r8, a47r9, a47r10, a47r11, a47r12, a47r13, hw]; clear hg))) | (refine condW_intro ?_ ?_ <;> intro hg <;> (have hp := hg; try simp only [decide_eq_true_eq, decide_eq_false_iff_not, beq_iff_eq, beq_eq_false_iff_ne, bne_iff_ne, bne_eq_false_iff_eq, Bool.not_eq_true', Bool.not_eq_false', Int.not_lt, Int.not_le, ne_eq, Bool.and_eq_true, Bool.or_eq_true, Bool.or_eq_false_iff, Bool.and_eq_false_iff] at hp) <;> (first | omega | (simp only [go_sem, Nat.reduceAdd, Nat.reduceSub, Nat.reduceMul, Nat.reduceEqDiff, Nat.reduceLT, Nat.reduceLeDiff, Nat.reduceBEq, reduceIte, reduceCtorEq, Int.reduceToNat, Int.reduceLE, Int.reduceLT, Int.reduceBEq, Int.reduceBNe, hg, a47, a47r0, a47r1, a47r2, a47r3, a47r4, a47r5, a47r6, a47r7, a47r8, a47r9, a47r10, a47r11, a47r12, a47r13, hw]; clear hg))))
      any_goals (refine Cl.fin rfl ⟨?_, rfl⟩; rw [hpc, if_neg]; rw [hb]; simp only [Bool.and_eq_true, decide_eq_true_eq]; omega)
      (refine Cl.tr [] [] rfl rfl (by simp only [go_sem, Nat.reduceAdd, Nat.reduceSub, Nat.reduceMul, Nat.reduceEqDiff, Nat.reduceLT, Nat.reduceLeDiff, Nat.reduceBEq, reduceIte, reduceCtorEq, Int.reduceToNat, Int.reduceLE, Int.reduceLT, Int.reduceBEq, Int.reduceBNe] <;> rfl) ?_; simp only [go_sem, Nat.reduceAdd, Nat.reduceSub, Nat.reduceMul, Nat.reduceEqDiff, Nat.reduceLT, Nat.reduceLeDiff, Nat.reduceBEq, reduceIte, reduceCtorEq, Int.reduceToNat, Int.reduceLE, Int.reduceLT, Int.reduceBEq, Int.reduceBNe])
      refine Cl.here ⟨⟨i + 1, l[i].time, by omega, ?_, rfl, rfl⟩, ?_⟩
      · rw [hb, decide_eq_true (by omega), Bool.true_and]
      · simp only [go_sem, Nat.reduceAdd, Nat.reduceSub, Nat.reduceMul, Nat.reduceEqDiff, Nat.reduceLT, Nat.reduceLeDiff, Nat.reduceBEq, reduceIte, reduceCtorEq, Int.reduceToNat, Int.reduceLE, Int.reduceLT, Int.reduceBEq, Int.reduceBNe]
        omega
    · have : i = l.length := by omega
      subst this
      exact Cl.fin rfl ⟨by rw [hpc, hb]; simp [sOk], rfl⟩

theorem sOk_ok : ∀ {l : List Stamp} {b : Int}, sOk b l = true → 0 ≤ b → ∀ s ∈ l, s.ok
  | [], _, _, _, s, hs => by simp at hs
  | x :: r, b, h, hb, s, hs => by
    simp only [sOk, Bool.and_eq_true, decide_eq_true_eq] at h
    rcases List.mem_cons.1 hs with rfl | hs
    · exact ⟨by omega, by omega, by omega⟩
    · exact sOk_ok h.2 (by omega) s hs

theorem PS.B.up {p : PS} {n m : Nat} (h : p.B n) (hn : n ≤ m) (hm : m ≤ 1000000) : p.B m :=
  ⟨hm, h.b0, h.b1, h.p0, h.p1, by have := h.l1; omega, by have := h.l2; omega, by have := h.l3; omega⟩
theorem PS.B.read {p : PS} {n : Nat} (h : p.B n) (hn : n + 3 ≤ 1000000) {s : Stamp} (ho : s.ok) : (p.read s).B (n + 3) := by
  obtain ⟨hk, h0, h1⟩ := ho
  unfold PS.read
  split
  · split
    · exact (h.enter h0 h1).up (by omega) hn
    · exact (h.report (by omega) _ _).up (by omega) hn
  · split
    · split
      · exact ((h.report (by omega) _ _).enter h0 h1).up (by omega) hn
      · split
        · exact (h.leave (by omega) _).up (by omega) hn
        · split
          · have := h.l1; have := h.l2; have := h.l3
            exact ⟨hn, h.b0, h.b1, h0, h1, by simp; omega, by simp; omega, by simp; omega⟩
          · exact (h.report (by omega) _ _).up (by omega) hn
    · split
      · exact ((h.report (by omega) _ _).enter h0 h1).up (by omega) hn
      · split
        · exact (((h.report (by omega) _ _).resume (by omega) _).leave (by omega) _).up (by omega) hn
        · split
          · have hr := h.report (by omega) 4 p.pause
            have := hr.l1; have := hr.l2; have := hr.l3
            exact ⟨hn, hr.b0, hr.b1, h0, h1, by simp at *; omega, by simp at *; omega, by simp at *; omega⟩
          · exact (h.resume (by omega) _).up (by omega) hn
theorem read_st {p : PS} (h : p.st) {s : Stamp} : (p.read s).st := by
  unfold PS.read
  have hres : ∀ (q : PS) t, (q.resume t).st := by intro q t; unfold PS.resume; split <;> exact .inr (.inl rfl)
  repeat' split
  all_goals first | exact hres _ _ | exact h | exact .inl rfl | exact .inr (.inl rfl) | exact .inr (.inr rfl)
theorem foldl_B : ∀ {l : List Stamp} {p : PS} {n : Nat}, p.B n → p.st → (∀ s ∈ l, s.ok) → n + 3 * l.length ≤ 1000000 → (l.foldl PS.read p).B (n + 3 * l.length) ∧ (l.foldl PS.read p).st
  | [], p, n, h, hs, _, _ => ⟨h, hs⟩
  | x :: r, p, n, h, hs, ho, hn => by
    simp only [List.length_cons] at hn ⊢
    obtain ⟨h1, h2⟩ := foldl_B (l := r) (h.read (by omega) (ho x (by simp))) (read_st hs) (fun s hs => ho s (by simp [hs])) (by omega)
    exact ⟨by rw [show n + 3 * (r.length + 1) = n + 3 + 3 * r.length from by omega]; exact h1, h2⟩

def pstart (n : Int) : PS := ⟨n, 0, 0, 0, [], [], []⟩
def prun (l : List Stamp) (n : Int) : PS := l.foldl PS.read (pstart n)
def PS.fin (p : PS) : PS := if p.state = 0 then p else p.report 1 p.begin
def pairP (l : List Stamp) (n : Int) : List Pre := if pcheck l n = 0 then (prun l n).fin.pres else []
def pairA (l : List Stamp) (n : Int) : List An := if pcheck l n = 0 then (prun l n).fin.ans else []
theorem pcheck_zero {l : List Stamp} {n : Int} (h : pcheck l n = 0) : l.length ≤ 1024 ∧ 1 ≤ n ∧ n ≤ 10080 ∧ sOk 0 l = true := by
  unfold pcheck at h
  split at h
  · omega
  · split at h
    · omega
    · split at h
      · rename_i h3; exact ⟨by omega, by omega, by omega, h3⟩
      · omega
theorem prun_B {l : List Stamp} {n : Int} (h : pcheck l n = 0) (i : Nat) : (prun (l.take i) n).B 3072 ∧ (prun (l.take i) n).st := by
  obtain ⟨h1, h2, h3, h4⟩ := pcheck_zero h
  have ho := sOk_ok h4 (by omega)
  have hlen : (l.take i).length ≤ 1024 := by simp; omega
  obtain ⟨a, b⟩ := foldl_B (l := l.take i) (p := pstart n) (n := 0) ⟨by omega, by simp [pstart], by simp [pstart], by simp [pstart], by simp [pstart], by simp [pstart], by simp [pstart], by simp [pstart]⟩ (.inl rfl)
    (fun s hs => ho s (List.mem_of_mem_take hs)) (by omega)
  exact ⟨a.up (by omega) (by omega), b⟩

theorem pair_ok (l : List Stamp) (n : Int) (hl : l.length ≤ 9223372036854775806) : AFn Try.prog 15 [.pure 4 (els l), .int .i64 n] []
    (fun v rs => v = .tup [.pure 3 (els (pairP l n)), .pure 2 (els (pairA l n)), .int .i64 (pcheck l n)] ∧ rs = []) := by
  refine afnW Try.func15 a15_ok (by simp [a15]) ?_
  simp only [go_sem, Nat.reduceAdd, Nat.reduceSub, Nat.reduceMul, Nat.reduceEqDiff, Nat.reduceLT, Nat.reduceLeDiff, Nat.reduceBEq, reduceIte, reduceCtorEq, Int.reduceToNat, Int.reduceLE, Int.reduceLT, Int.reduceBEq, Int.reduceBNe, a15, a15r0, a15r1, a15r2, a15r3, a15r4, a15r5, a15r6, a15r7, a15r8, a15r9, a15r10, a15r11, a15r12]
  (refine Cl.here ?_; simp only [go_sem, Nat.reduceAdd, Nat.reduceSub, Nat.reduceMul, Nat.reduceEqDiff, Nat.reduceLT, Nat.reduceLeDiff, Nat.reduceBEq, reduceIte, reduceCtorEq, Int.reduceToNat, Int.reduceLE, Int.reduceLT, Int.reduceBEq, Int.reduceBNe])
  refine callC_det (check_ok l n hl) rfl rfl ?_
  simp only [go_sem, Nat.reduceAdd, Nat.reduceSub, Nat.reduceMul, Nat.reduceEqDiff, Nat.reduceLT, Nat.reduceLeDiff, Nat.reduceBEq, reduceIte, reduceCtorEq, Int.reduceToNat, Int.reduceLE, Int.reduceLT, Int.reduceBEq, Int.reduceBNe]
  repeat (refine Cl.here ?_; simp only [go_sem, Nat.reduceAdd, Nat.reduceSub, Nat.reduceMul, Nat.reduceEqDiff, Nat.reduceLT, Nat.reduceLeDiff, Nat.reduceBEq, reduceIte, reduceCtorEq, Int.reduceToNat, Int.reduceLE, Int.reduceLT, Int.reduceBEq, Int.reduceBNe])
  refine condW_intro ?_ ?_ <;> intro hg1 <;> simp only [decide_eq_true_eq, decide_eq_false_iff_not, beq_iff_eq, beq_eq_false_iff_ne, bne_iff_ne, bne_eq_false_iff_eq, Bool.not_eq_true', Bool.not_eq_false', Int.not_lt, Int.not_le, ne_eq, Bool.and_eq_true, Bool.or_eq_true, Bool.or_eq_false_iff, Bool.and_eq_false_iff] at hg1 <;> simp only [go_sem, Nat.reduceAdd, Nat.reduceSub, Nat.reduceMul, Nat.reduceEqDiff, Nat.reduceLT, Nat.reduceLeDiff, Nat.reduceBEq, reduceIte, reduceCtorEq, Int.reduceToNat, Int.reduceLE, Int.reduceLT, Int.reduceBEq, Int.reduceBNe, a15, a15r0, a15r1, a15r2, a15r3, a15r4, a15r5, a15r6, a15r7, a15r8, a15r9, a15r10, a15r11, a15r12]
  · (refine Cl.ghost 4  29  3 rfl (Cl.norm [ 4, 5, 6] ?_); simp only [go_sem, Nat.reduceAdd, Nat.reduceSub, Nat.reduceMul, Nat.reduceEqDiff, Nat.reduceLT, Nat.reduceLeDiff, Nat.reduceBEq, reduceIte, reduceCtorEq, Int.reduceToNat, Int.reduceLE, Int.reduceLT, Int.reduceBEq, Int.reduceBNe])
    (refine Cl.ghost 5  98  2 rfl (Cl.norm [ 4, 5, 6] ?_); simp only [go_sem, Nat.reduceAdd, Nat.reduceSub, Nat.reduceMul, Nat.reduceEqDiff, Nat.reduceLT, Nat.reduceLeDiff, Nat.reduceBEq, reduceIte, reduceCtorEq, Int.reduceToNat, Int.reduceLE, Int.reduceLT, Int.reduceBEq, Int.reduceBNe])
    (refine Cl.frz [] [ 0, 1] rfl rfl (by simp only [go_sem, Nat.reduceAdd, Nat.reduceSub, Nat.reduceMul, Nat.reduceEqDiff, Nat.reduceLT, Nat.reduceLeDiff, Nat.reduceBEq, reduceIte, reduceCtorEq, Int.reduceToNat, Int.reduceLE, Int.reduceLT, Int.reduceBEq, Int.reduceBNe] <;> rfl) ?_; simp only [go_sem, Nat.reduceAdd, Nat.reduceSub, Nat.reduceMul, Nat.reduceEqDiff, Nat.reduceLT, Nat.reduceLeDiff, Nat.reduceBEq, reduceIte, reduceCtorEq, Int.reduceToNat, Int.reduceLE, Int.reduceLT, Int.reduceBEq, Int.reduceBNe])
    (refine Cl.here ?_; simp only [go_sem, Nat.reduceAdd, Nat.reduceSub, Nat.reduceMul, Nat.reduceEqDiff, Nat.reduceLT, Nat.reduceLeDiff, Nat.reduceBEq, reduceIte, reduceCtorEq, Int.reduceToNat, Int.reduceLE, Int.reduceLT, Int.reduceBEq, Int.reduceBNe])
    exact Cl.here ⟨by simp [pairP, pairA, hg1, els, slot], rfl⟩
  · obtain ⟨hl1, _, _, hso⟩ := pcheck_zero hg1
    have ho := sOk_ok hso (by omega)
    repeat (refine Cl.here ?_; simp only [go_sem, Nat.reduceAdd, Nat.reduceSub, Nat.reduceMul, Nat.reduceEqDiff, Nat.reduceLT, Nat.reduceLeDiff, Nat.reduceBEq, reduceIte, reduceCtorEq, Int.reduceToNat, Int.reduceLE, Int.reduceLT, Int.reduceBEq, Int.reduceBNe])
    refine avcW_loop (fun env rows => ∃ i : Nat, i ≤ l.length ∧ env = [(8, .ref 0 1 0 0), (19, .pure 4 (els l)), (20, .int .i64 l.length), (21, .int .i64 i)] ∧ rows = pRows (prun (l.take i) n))
      (fun env _ => match slot env 21 with | .int _ j => (l.length - j).toNat | _ => 0) ?_ ?_
    · (refine Cl.step (.ghostC 0  0  5  29  3 rfl (by simp) (by decide) rfl) ?_; simp only [go_sem, Nat.reduceAdd, Nat.reduceSub, Nat.reduceMul, Nat.reduceEqDiff, Nat.reduceLT, Nat.reduceLeDiff, Nat.reduceBEq, reduceIte, reduceCtorEq, Int.reduceToNat, Int.reduceLE, Int.reduceLT, Int.reduceBEq, Int.reduceBNe, splice])
      (refine Cl.step (.ghostC 0  0  6  98  2 rfl (by simp) (by decide) rfl) ?_; simp only [go_sem, Nat.reduceAdd, Nat.reduceSub, Nat.reduceMul, Nat.reduceEqDiff, Nat.reduceLT, Nat.reduceLeDiff, Nat.reduceBEq, reduceIte, reduceCtorEq, Int.reduceToNat, Int.reduceLE, Int.reduceLT, Int.reduceBEq, Int.reduceBNe, splice])
      (refine Cl.step (.ghostC 0  0  4  26  2 rfl (by simp) (by decide) rfl) ?_; simp only [go_sem, Nat.reduceAdd, Nat.reduceSub, Nat.reduceMul, Nat.reduceEqDiff, Nat.reduceLT, Nat.reduceLeDiff, Nat.reduceBEq, reduceIte, reduceCtorEq, Int.reduceToNat, Int.reduceLE, Int.reduceLT, Int.reduceBEq, Int.reduceBNe, splice])
      exact Cl.here ⟨0, by omega, rfl, rfl⟩
    · rintro env rows ⟨i, hi, rfl, rfl⟩
      obtain ⟨hB, hst⟩ := prun_B hg1 i
      simp only [go_sem, Nat.reduceAdd, Nat.reduceSub, Nat.reduceMul, Nat.reduceEqDiff, Nat.reduceLT, Nat.reduceLeDiff, Nat.reduceBEq, reduceIte, reduceCtorEq, Int.reduceToNat, Int.reduceLE, Int.reduceLT, Int.reduceBEq, Int.reduceBNe, a15, a15r0, a15r1, a15r2, a15r3, a15r4, a15r5, a15r6, a15r7, a15r8, a15r9, a15r10, a15r11, a15r12]
      repeat (refine Cl.here ?_; simp only [go_sem, Nat.reduceAdd, Nat.reduceSub, Nat.reduceMul, Nat.reduceEqDiff, Nat.reduceLT, Nat.reduceLeDiff, Nat.reduceBEq, reduceIte, reduceCtorEq, Int.reduceToNat, Int.reduceLE, Int.reduceLT, Int.reduceBEq, Int.reduceBNe])
      refine condW_intro ?_ ?_ <;> intro hg2 <;> simp only [decide_eq_true_eq, decide_eq_false_iff_not, beq_iff_eq, beq_eq_false_iff_ne, bne_iff_ne, bne_eq_false_iff_eq, Bool.not_eq_true', Bool.not_eq_false', Int.not_lt, Int.not_le, ne_eq, Bool.and_eq_true, Bool.or_eq_true, Bool.or_eq_false_iff, Bool.and_eq_false_iff] at hg2 <;> simp only [go_sem, Nat.reduceAdd, Nat.reduceSub, Nat.reduceMul, Nat.reduceEqDiff, Nat.reduceLT, Nat.reduceLeDiff, Nat.reduceBEq, reduceIte, reduceCtorEq, Int.reduceToNat, Int.reduceLE, Int.reduceLT, Int.reduceBEq, Int.reduceBNe, a15, a15r0, a15r1, a15r2, a15r3, a15r4, a15r5, a15r6, a15r7, a15r8, a15r9, a15r10, a15r11, a15r12]
      · have hlt : i < l.length := by omega
        (refine Cl.here ?_; simp only [go_sem, Nat.reduceAdd, Nat.reduceSub, Nat.reduceMul, Nat.reduceEqDiff, Nat.reduceLT, Nat.reduceLeDiff, Nat.reduceBEq, reduceIte, reduceCtorEq, Int.reduceToNat, Int.reduceLE, Int.reduceLT, Int.reduceBEq, Int.reduceBNe])
        simp only [go_sem, Nat.reduceAdd, Nat.reduceSub, Nat.reduceMul, Nat.reduceEqDiff, Nat.reduceLT, Nat.reduceLeDiff, Nat.reduceBEq, reduceIte, reduceCtorEq, Int.reduceToNat, Int.reduceLE, Int.reduceLT, Int.reduceBEq, Int.reduceBNe, pRows, pRow]
        refine ⟨by omega, by omega, ?_⟩
        try simp only [Int.toNat_natCast]
        rw [els_getD hlt]
        simp only [go_sem, Nat.reduceAdd, Nat.reduceSub, Nat.reduceMul, Nat.reduceEqDiff, Nat.reduceLT, Nat.reduceLeDiff, Nat.reduceBEq, reduceIte, reduceCtorEq, Int.reduceToNat, Int.reduceLE, Int.reduceLT, Int.reduceBEq, Int.reduceBNe, a15, a15r0, a15r1, a15r2, a15r3, a15r4, a15r5, a15r6, a15r7, a15r8, a15r9, a15r10, a15r11, a15r12]
        repeat (refine Cl.here ?_; simp only [go_sem, Nat.reduceAdd, Nat.reduceSub, Nat.reduceMul, Nat.reduceEqDiff, Nat.reduceLT, Nat.reduceLeDiff, Nat.reduceBEq, reduceIte, reduceCtorEq, Int.reduceToNat, Int.reduceLE, Int.reduceLT, Int.reduceBEq, Int.reduceBNe])
        have hr := read_ok _ hB (by omega) hst l[i] (ho _ (List.getElem_mem _))
        have hrun : (prun (l.take i) n).read l[i] = prun (l.take (i + 1)) n := by
          rw [prun, prun, List.take_add_one, List.getElem?_eq_getElem hlt, List.foldl_append]; rfl
        rw [hrun] at hr
        have hw : IntKind.i64.wrap ((i : Int) + 1) = ((i + 1 : Nat) : Int) := by rw [wrap_i64 (by omega) (by omega)]; omega
        refine callC_of [0, 1, 2, 3] [] (by decide) (by simp only [go_sem, Nat.reduceAdd, Nat.reduceSub, Nat.reduceMul, Nat.reduceEqDiff, Nat.reduceLT, Nat.reduceLeDiff, Nat.reduceBEq, reduceIte, reduceCtorEq, Int.reduceToNat, Int.reduceLE, Int.reduceLT, Int.reduceBEq, Int.reduceBNe] <;> rfl) (by simp only [go_sem, Nat.reduceAdd, Nat.reduceSub, Nat.reduceMul, Nat.reduceEqDiff, Nat.reduceLT, Nat.reduceLeDiff, Nat.reduceBEq, reduceIte, reduceCtorEq, Int.reduceToNat, Int.reduceLE, Int.reduceLT, Int.reduceBEq, Int.reduceBNe] <;> rfl) hr ?_
        rintro _ _ ⟨rfl, h | ⟨h, hbr⟩⟩
        · subst h
          refine ⟨.inl rfl, ?_⟩
          simp only [go_sem, Nat.reduceAdd, Nat.reduceSub, Nat.reduceMul, Nat.reduceEqDiff, Nat.reduceLT, Nat.reduceLeDiff, Nat.reduceBEq, reduceIte, reduceCtorEq, Int.reduceToNat, Int.reduceLE, Int.reduceLT, Int.reduceBEq, Int.reduceBNe, pRows, pRow]
          (refine Cl.here ?_; simp only [go_sem, Nat.reduceAdd, Nat.reduceSub, Nat.reduceMul, Nat.reduceEqDiff, Nat.reduceLT, Nat.reduceLeDiff, Nat.reduceBEq, reduceIte, reduceCtorEq, Int.reduceToNat, Int.reduceLE, Int.reduceLT, Int.reduceBEq, Int.reduceBNe])
          rw [hw]
          (refine Cl.tr [some 0, some 1, some 2, some 3] [] rfl rfl (by simp only [go_sem, Nat.reduceAdd, Nat.reduceSub, Nat.reduceMul, Nat.reduceEqDiff, Nat.reduceLT, Nat.reduceLeDiff, Nat.reduceBEq, reduceIte, reduceCtorEq, Int.reduceToNat, Int.reduceLE, Int.reduceLT, Int.reduceBEq, Int.reduceBNe] <;> rfl) ?_; simp only [go_sem, Nat.reduceAdd, Nat.reduceSub, Nat.reduceMul, Nat.reduceEqDiff, Nat.reduceLT, Nat.reduceLeDiff, Nat.reduceBEq, reduceIte, reduceCtorEq, Int.reduceToNat, Int.reduceLE, Int.reduceLT, Int.reduceBEq, Int.reduceBNe])
          refine Cl.here ⟨⟨i + 1, by omega, rfl, rfl⟩, ?_⟩
          simp only [go_sem, Nat.reduceAdd, Nat.reduceSub, Nat.reduceMul, Nat.reduceEqDiff, Nat.reduceLT, Nat.reduceLeDiff, Nat.reduceBEq, reduceIte, reduceCtorEq, Int.reduceToNat, Int.reduceLE, Int.reduceLT, Int.reduceBEq, Int.reduceBNe]
          omega
        · subst h
          refine ⟨.inl rfl, ?_⟩
          simp only [go_sem, Nat.reduceAdd, Nat.reduceSub, Nat.reduceMul, Nat.reduceEqDiff, Nat.reduceLT, Nat.reduceLeDiff, Nat.reduceBEq, reduceIte, reduceCtorEq, Int.reduceToNat, Int.reduceLE, Int.reduceLT, Int.reduceBEq, Int.reduceBNe, pRowsE, pRow]
          (refine Cl.here ?_; simp only [go_sem, Nat.reduceAdd, Nat.reduceSub, Nat.reduceMul, Nat.reduceEqDiff, Nat.reduceLT, Nat.reduceLeDiff, Nat.reduceBEq, reduceIte, reduceCtorEq, Int.reduceToNat, Int.reduceLE, Int.reduceLT, Int.reduceBEq, Int.reduceBNe])
          rw [hw]
          (refine Cl.step (.ghostC 0  0  4  26  2 rfl (by simp) (by decide) rfl) ?_; simp only [go_sem, Nat.reduceAdd, Nat.reduceSub, Nat.reduceMul, Nat.reduceEqDiff, Nat.reduceLT, Nat.reduceLeDiff, Nat.reduceBEq, reduceIte, reduceCtorEq, Int.reduceToNat, Int.reduceLE, Int.reduceLT, Int.reduceBEq, Int.reduceBNe, splice])
          (refine Cl.tr [some 0, some 1, some 2, some 5] [] rfl rfl (by simp only [go_sem, Nat.reduceAdd, Nat.reduceSub, Nat.reduceMul, Nat.reduceEqDiff, Nat.reduceLT, Nat.reduceLeDiff, Nat.reduceBEq, reduceIte, reduceCtorEq, Int.reduceToNat, Int.reduceLE, Int.reduceLT, Int.reduceBEq, Int.reduceBNe] <;> rfl) ?_; simp only [go_sem, Nat.reduceAdd, Nat.reduceSub, Nat.reduceMul, Nat.reduceEqDiff, Nat.reduceLT, Nat.reduceLeDiff, Nat.reduceBEq, reduceIte, reduceCtorEq, Int.reduceToNat, Int.reduceLE, Int.reduceLT, Int.reduceBEq, Int.reduceBNe])
          refine Cl.here ⟨⟨i + 1, by omega, rfl, by simp [pRows, pRow, hbr, els]⟩, ?_⟩
          simp only [go_sem, Nat.reduceAdd, Nat.reduceSub, Nat.reduceMul, Nat.reduceEqDiff, Nat.reduceLT, Nat.reduceLeDiff, Nat.reduceBEq, reduceIte, reduceCtorEq, Int.reduceToNat, Int.reduceLE, Int.reduceLT, Int.reduceBEq, Int.reduceBNe]
          omega
      · have : i = l.length := by omega
        subst this
        rw [List.take_length] at hB ⊢
        have hl3 := hB.l3
        simp only [go_sem, Nat.reduceAdd, Nat.reduceSub, Nat.reduceMul, Nat.reduceEqDiff, Nat.reduceLT, Nat.reduceLeDiff, Nat.reduceBEq, reduceIte, reduceCtorEq, Int.reduceToNat, Int.reduceLE, Int.reduceLT, Int.reduceBEq, Int.reduceBNe, pRows, pRow]
        (refine Cl.here ?_; simp only [go_sem, Nat.reduceAdd, Nat.reduceSub, Nat.reduceMul, Nat.reduceEqDiff, Nat.reduceLT, Nat.reduceLeDiff, Nat.reduceBEq, reduceIte, reduceCtorEq, Int.reduceToNat, Int.reduceLE, Int.reduceLT, Int.reduceBEq, Int.reduceBNe])
        (refine Cl.here ?_; simp only [go_sem, Nat.reduceAdd, Nat.reduceSub, Nat.reduceMul, Nat.reduceEqDiff, Nat.reduceLT, Nat.reduceLeDiff, Nat.reduceBEq, reduceIte, reduceCtorEq, Int.reduceToNat, Int.reduceLE, Int.reduceLT, Int.reduceBEq, Int.reduceBNe])
        refine condW_intro ?_ ?_ <;> intro hg3 <;> simp only [decide_eq_true_eq, decide_eq_false_iff_not, beq_iff_eq, beq_eq_false_iff_ne, bne_iff_ne, bne_eq_false_iff_eq, Bool.not_eq_true', Bool.not_eq_false', Int.not_lt, Int.not_le, ne_eq, Bool.and_eq_true, Bool.or_eq_true, Bool.or_eq_false_iff, Bool.and_eq_false_iff] at hg3 <;> simp only [go_sem, Nat.reduceAdd, Nat.reduceSub, Nat.reduceMul, Nat.reduceEqDiff, Nat.reduceLT, Nat.reduceLeDiff, Nat.reduceBEq, reduceIte, reduceCtorEq, Int.reduceToNat, Int.reduceLE, Int.reduceLT, Int.reduceBEq, Int.reduceBNe, a15, a15r0, a15r1, a15r2, a15r3, a15r4, a15r5, a15r6, a15r7, a15r8, a15r9, a15r10, a15r11, a15r12]
        · have hr := report_ok _ hB 1 (prun l n).begin
          refine callC_of [0, 1, 2, 3] [] (by decide) (by simp only [go_sem, Nat.reduceAdd, Nat.reduceSub, Nat.reduceMul, Nat.reduceEqDiff, Nat.reduceLT, Nat.reduceLeDiff, Nat.reduceBEq, reduceIte, reduceCtorEq, Int.reduceToNat, Int.reduceLE, Int.reduceLT, Int.reduceBEq, Int.reduceBNe] <;> rfl) (by simp only [go_sem, Nat.reduceAdd, Nat.reduceSub, Nat.reduceMul, Nat.reduceEqDiff, Nat.reduceLT, Nat.reduceLeDiff, Nat.reduceBEq, reduceIte, reduceCtorEq, Int.reduceToNat, Int.reduceLE, Int.reduceLT, Int.reduceBEq, Int.reduceBNe] <;> rfl) hr ?_
          rintro _ _ ⟨rfl, rfl⟩
          refine ⟨.inl rfl, ?_⟩
          simp only [go_sem, Nat.reduceAdd, Nat.reduceSub, Nat.reduceMul, Nat.reduceEqDiff, Nat.reduceLT, Nat.reduceLeDiff, Nat.reduceBEq, reduceIte, reduceCtorEq, Int.reduceToNat, Int.reduceLE, Int.reduceLT, Int.reduceBEq, Int.reduceBNe, pRows, pRow]
          (refine Cl.here ?_; simp only [go_sem, Nat.reduceAdd, Nat.reduceSub, Nat.reduceMul, Nat.reduceEqDiff, Nat.reduceLT, Nat.reduceLeDiff, Nat.reduceBEq, reduceIte, reduceCtorEq, Int.reduceToNat, Int.reduceLE, Int.reduceLT, Int.reduceBEq, Int.reduceBNe])
          (refine Cl.frz [] [ 1, 2] rfl rfl (by simp only [go_sem, Nat.reduceAdd, Nat.reduceSub, Nat.reduceMul, Nat.reduceEqDiff, Nat.reduceLT, Nat.reduceLeDiff, Nat.reduceBEq, reduceIte, reduceCtorEq, Int.reduceToNat, Int.reduceLE, Int.reduceLT, Int.reduceBEq, Int.reduceBNe] <;> rfl) ?_; simp only [go_sem, Nat.reduceAdd, Nat.reduceSub, Nat.reduceMul, Nat.reduceEqDiff, Nat.reduceLT, Nat.reduceLeDiff, Nat.reduceBEq, reduceIte, reduceCtorEq, Int.reduceToNat, Int.reduceLE, Int.reduceLT, Int.reduceBEq, Int.reduceBNe])
          (refine Cl.here ?_; simp only [go_sem, Nat.reduceAdd, Nat.reduceSub, Nat.reduceMul, Nat.reduceEqDiff, Nat.reduceLT, Nat.reduceLeDiff, Nat.reduceBEq, reduceIte, reduceCtorEq, Int.reduceToNat, Int.reduceLE, Int.reduceLT, Int.reduceBEq, Int.reduceBNe])
          refine Cl.here ⟨?_, rfl⟩
          simp [slot, pairP, pairA, hg1, PS.fin, hg3]
        · (refine Cl.here ?_; simp only [go_sem, Nat.reduceAdd, Nat.reduceSub, Nat.reduceMul, Nat.reduceEqDiff, Nat.reduceLT, Nat.reduceLeDiff, Nat.reduceBEq, reduceIte, reduceCtorEq, Int.reduceToNat, Int.reduceLE, Int.reduceLT, Int.reduceBEq, Int.reduceBNe])
          (refine Cl.frz [] [ 1, 2] rfl rfl (by simp only [go_sem, Nat.reduceAdd, Nat.reduceSub, Nat.reduceMul, Nat.reduceEqDiff, Nat.reduceLT, Nat.reduceLeDiff, Nat.reduceBEq, reduceIte, reduceCtorEq, Int.reduceToNat, Int.reduceLE, Int.reduceLT, Int.reduceBEq, Int.reduceBNe] <;> rfl) ?_; simp only [go_sem, Nat.reduceAdd, Nat.reduceSub, Nat.reduceMul, Nat.reduceEqDiff, Nat.reduceLT, Nat.reduceLeDiff, Nat.reduceBEq, reduceIte, reduceCtorEq, Int.reduceToNat, Int.reduceLE, Int.reduceLT, Int.reduceBEq, Int.reduceBNe])
          (refine Cl.here ?_; simp only [go_sem, Nat.reduceAdd, Nat.reduceSub, Nat.reduceMul, Nat.reduceEqDiff, Nat.reduceLT, Nat.reduceLeDiff, Nat.reduceBEq, reduceIte, reduceCtorEq, Int.reduceToNat, Int.reduceLE, Int.reduceLT, Int.reduceBEq, Int.reduceBNe])
          refine Cl.here ⟨?_, rfl⟩
          simp [slot, pairP, pairA, hg1, PS.fin, hg3]

end Go.Proofs.Ytjacobmkfkmdiaa
