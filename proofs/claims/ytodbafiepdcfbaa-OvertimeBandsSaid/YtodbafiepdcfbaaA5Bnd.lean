/- Made rules of bands; minutes of intervals; equal lists of pieces. -/
import Derived.Test.YtodbafiepdcfbaaA5Wks
set_option linter.unusedSimpArgs false
set_option linter.unusedVariables false
set_option linter.unusedSectionVars false
namespace Go.Proofs.Ytodbafiepdcfbaa
open Go Go.Abs
set_option linter.unusedSimpArgs false
set_option linter.unusedVariables false

theorem bdsB_snoc {x : Bd} (hn : nmP x.name) (h2 : x.after ≤ 10080) : ∀ {b : Int} {l : List Bd}, bdsB b l = true → b < x.after → (∀ y ∈ l, y.after < x.after) → bdsB b (l ++ [x]) = true
  | b, [], _, h1, _ => by simp [bdsB, hn, h1, h2]
  | b, y :: l, h, h1, h3 => by
    simp only [bdsB, Bool.and_eq_true, decide_eq_true_eq] at h
    have := bdsB_snoc hn h2 h.2.2.2 (h3 y List.mem_cons_self) fun z hz => h3 z (List.mem_cons_of_mem _ hz)
    simp [bdsB, h.1, h.2.1, h.2.2.1, this]
theorem nm_pick {s0 s1 s2 : ByteArray} (h0 : nmP s0) (h1 : nmP s1) (h2 : nmP s2) {z : Int} (hz : 0 ≤ z) (hz2 : z < 3 ∨ z = 0) : ∃ nm : ByteArray, ([[AVal.str s0], [.str s1], [.str s2]] : List (List AVal)).getD z.toNat [] = [.str nm] ∧ nmP nm := by
  have : z = 0 ∨ z = 1 ∨ z = 2 := by omega
  rcases this with rfl | rfl | rfl
  · exact ⟨s0, rfl, h0⟩
  · exact ⟨s1, rfl, h1⟩
  · exact ⟨s2, rfl, h2⟩

def rlOk (R : Rl) : Prop := R.nm = nmN ∧ R.dy.length ≤ 2 ∧ R.wk.length ≤ 2 ∧ bdsB (-1) R.dy = true ∧ bdsB (-1) R.wk = true
theorem rlOk_v {R : Rl} (h : rlOk R) : vR R = 0 := by
  obtain ⟨h1, h2, h3, h4, h5⟩ := h
  have hn : nmP R.nm := by rw [h1]; decide
  unfold vR
  rw [if_neg (by omega), if_pos ⟨hn, h4, h5⟩]

theorem bands_ok (l : List Int) (hl : TapeOk l) (at_ : Int) (h0 : 0 ≤ at_) (h1 : at_ ≤ l.length) : AFn Try.prog 18 [.ref 0 1 0 0, .bool false] [tp l at_]
    (fun v rs => ∃ (a : Int) (R : Rl), v = R.v ∧ rs = [tp l a] ∧ 0 ≤ a ∧ a ≤ l.length ∧ rlOk R) := by
  refine afnW Try.func18 a18_ok (by simp [a18]) ?_
  simp only [go_sem, Nat.reduceAdd, Nat.reduceSub, Nat.reduceMul, Nat.reduceEqDiff, Nat.reduceLT, Nat.reduceLeDiff, Nat.reduceBEq, reduceIte, reduceCtorEq, Int.reduceToNat, Int.reduceLE, Int.reduceLT, Int.reduceBEq, Int.reduceBNe, a18, a18r0, a18r1, a18r2, a18r3, a18r4, a18r5, a18r6, a18r7, a18r8, a18r9, a18r10, a18r11, a18r12, a18r13, a18r14, a18r15, a18r16, a18r17, a18r18, a18r19, a18r20, a18r21, tp]
  repeat (refine Cl.here ?_; simp only [go_sem, Nat.reduceAdd, Nat.reduceSub, Nat.reduceMul, Nat.reduceEqDiff, Nat.reduceLT, Nat.reduceLeDiff, Nat.reduceBEq, reduceIte, reduceCtorEq, Int.reduceToNat, Int.reduceLE, Int.reduceLT, Int.reduceBEq, Int.reduceBNe])
  (refine callC_pick [0, 60, 480, 120] (pick_ok l hl _ (by simp) (by simp)) rfl rfl rfl rfl rfl (by decide) (by omega) (by omega) ?_; rintro _ at_ _ _ ⟨x, hmem, rfl⟩; simp only [List.mem_cons, List.not_mem_nil, or_false] at hmem; simp only [go_sem, Nat.reduceAdd, Nat.reduceSub, Nat.reduceMul, Nat.reduceEqDiff, Nat.reduceLT, Nat.reduceLeDiff, Nat.reduceBEq, reduceIte, reduceCtorEq, Int.reduceToNat, Int.reduceLE, Int.reduceLT, Int.reduceBEq, Int.reduceBNe])
  have hx : 0 ≤ x ∧ x ≤ 480 := by omega
  clear hmem
  repeat (refine Cl.here ?_; simp only [go_sem, Nat.reduceAdd, Nat.reduceSub, Nat.reduceMul, Nat.reduceEqDiff, Nat.reduceLT, Nat.reduceLeDiff, Nat.reduceBEq, reduceIte, reduceCtorEq, Int.reduceToNat, Int.reduceLE, Int.reduceLT, Int.reduceBEq, Int.reduceBNe])
  (refine callC_tape (next_ok l hl 3 (by omega)) rfl rfl (by omega) (by omega) ?_; rintro _ at_ _ _ ⟨ k, rfl, _, _⟩; simp only [go_sem, Nat.reduceAdd, Nat.reduceSub, Nat.reduceMul, Nat.reduceEqDiff, Nat.reduceLT, Nat.reduceLeDiff, Nat.reduceBEq, reduceIte, reduceCtorEq, Int.reduceToNat, Int.reduceLE, Int.reduceLT, Int.reduceBEq, Int.reduceBNe])
  (refine Cl.here ?_; simp only [go_sem, Nat.reduceAdd, Nat.reduceSub, Nat.reduceMul, Nat.reduceEqDiff, Nat.reduceLT, Nat.reduceLeDiff, Nat.reduceBEq, reduceIte, reduceCtorEq, Int.reduceToNat, Int.reduceLE, Int.reduceLT, Int.reduceBEq, Int.reduceBNe])
  refine avcW_loop (fun env rows => ∃ (a : Int) (dy : List Bd) (j t : Int), env = [(0, .ref 0 1 0 0), (1, .bool false), (4, .ref 1 1 0 0), (5, .ref 2 1 0 0), (6, .int .i64 t), (7, .int .i64 j)] ∧
      rows = [tapeRow 81 l a, .live 36 3 [[.str ⟨#[]⟩, .nils, .nils]], .live 36 3 [[.str nmN, .own 3 dy.length 0 dy.length, .nils]], .live 55 2 (els dy)] ∧ 0 ≤ a ∧ a ≤ l.length ∧ 0 ≤ j ∧ dy.length + j ≤ 2 ∧ bdsB (-1) dy = true ∧ (∀ y ∈ dy, y.after < t) ∧ 0 ≤ t ∧ t + 120 * j ≤ 720)
    (fun env _ => match slot env 7 with | .int _ j => j.toNat | _ => 0) ?_ ?_
  · (refine Cl.tr [some 0, some 1, some 2] [] rfl rfl (by simp only [go_sem, Nat.reduceAdd, Nat.reduceSub, Nat.reduceMul, Nat.reduceEqDiff, Nat.reduceLT, Nat.reduceLeDiff, Nat.reduceBEq, reduceIte, reduceCtorEq, Int.reduceToNat, Int.reduceLE, Int.reduceLT, Int.reduceBEq, Int.reduceBNe] <;> rfl) ?_; simp only [go_sem, Nat.reduceAdd, Nat.reduceSub, Nat.reduceMul, Nat.reduceEqDiff, Nat.reduceLT, Nat.reduceLeDiff, Nat.reduceBEq, reduceIte, reduceCtorEq, Int.reduceToNat, Int.reduceLE, Int.reduceLT, Int.reduceBEq, Int.reduceBNe])
    (refine Cl.step (.ghostC 2  0  1  55  2 rfl (by simp) (by decide) rfl) ?_; simp only [go_sem, Nat.reduceAdd, Nat.reduceSub, Nat.reduceMul, Nat.reduceEqDiff, Nat.reduceLT, Nat.reduceLeDiff, Nat.reduceBEq, reduceIte, reduceCtorEq, Int.reduceToNat, Int.reduceLE, Int.reduceLT, Int.reduceBEq, Int.reduceBNe, splice])
    exact Cl.here ⟨at_, [], k, x, rfl, rfl, by omega, by omega, by omega, by simp; omega, rfl, by simp, by omega, by omega⟩
  · rintro env rows ⟨at_, dy, j, t, rfl, rfl, _, _, _, _, hb, hlt, ht0, ht1⟩
    simp only [go_sem, Nat.reduceAdd, Nat.reduceSub, Nat.reduceMul, Nat.reduceEqDiff, Nat.reduceLT, Nat.reduceLeDiff, Nat.reduceBEq, reduceIte, reduceCtorEq, Int.reduceToNat, Int.reduceLE, Int.reduceLT, Int.reduceBEq, Int.reduceBNe, a18, a18r0, a18r1, a18r2, a18r3, a18r4, a18r5, a18r6, a18r7, a18r8, a18r9, a18r10, a18r11, a18r12, a18r13, a18r14, a18r15, a18r16, a18r17, a18r18, a18r19, a18r20, a18r21]
    repeat (refine Cl.here ?_; simp only [go_sem, Nat.reduceAdd, Nat.reduceSub, Nat.reduceMul, Nat.reduceEqDiff, Nat.reduceLT, Nat.reduceLeDiff, Nat.reduceBEq, reduceIte, reduceCtorEq, Int.reduceToNat, Int.reduceLE, Int.reduceLT, Int.reduceBEq, Int.reduceBNe])
    refine condW_intro ?_ ?_ <;> intro hg <;> simp only [decide_eq_true_eq, decide_eq_false_iff_not, beq_iff_eq, beq_eq_false_iff_ne, bne_iff_ne, bne_eq_false_iff_eq, Bool.not_eq_true', Bool.not_eq_false', Int.not_lt, Int.not_le, ne_eq, Bool.and_eq_true, Bool.or_eq_true, Bool.or_eq_false_iff, Bool.and_eq_false_iff] at hg <;> simp only [go_sem, Nat.reduceAdd, Nat.reduceSub, Nat.reduceMul, Nat.reduceEqDiff, Nat.reduceLT, Nat.reduceLeDiff, Nat.reduceBEq, reduceIte, reduceCtorEq, Int.reduceToNat, Int.reduceLE, Int.reduceLT, Int.reduceBEq, Int.reduceBNe, a18, a18r0, a18r1, a18r2, a18r3, a18r4, a18r5, a18r6, a18r7, a18r8, a18r9, a18r10, a18r11, a18r12, a18r13, a18r14, a18r15, a18r16, a18r17, a18r18, a18r19, a18r20, a18r21]
    · (refine Cl.here ?_; simp only [go_sem, Nat.reduceAdd, Nat.reduceSub, Nat.reduceMul, Nat.reduceEqDiff, Nat.reduceLT, Nat.reduceLeDiff, Nat.reduceBEq, reduceIte, reduceCtorEq, Int.reduceToNat, Int.reduceLE, Int.reduceLT, Int.reduceBEq, Int.reduceBNe])
      (refine callD_tape (next_ok l hl 3 (by omega)) (by simp only [go_sem, Nat.reduceAdd, Nat.reduceSub, Nat.reduceMul, Nat.reduceEqDiff, Nat.reduceLT, Nat.reduceLeDiff, Nat.reduceBEq, reduceIte, reduceCtorEq, Int.reduceToNat, Int.reduceLE, Int.reduceLT, Int.reduceBEq, Int.reduceBNe]) rfl rfl (by omega) (by omega) ?_; rintro _ at_ _ _ ⟨ z, rfl, _, _⟩; simp only [go_sem, Nat.reduceAdd, Nat.reduceSub, Nat.reduceMul, Nat.reduceEqDiff, Nat.reduceLT, Nat.reduceLeDiff, Nat.reduceBEq, reduceIte, reduceCtorEq, Int.reduceToNat, Int.reduceLE, Int.reduceLT, Int.reduceBEq, Int.reduceBNe])
      obtain ⟨nm, hnm, hnp⟩ := nm_pick (s0 := ⟨#[111, 116, 49]⟩) (s1 := ⟨#[111, 116, 50]⟩) (s2 := ⟨#[110, 111, 114, 109, 97, 108]⟩) (by decide) (by decide) (by decide) (z := z) (by omega) (by omega)
      have hz0 : (0 : Int) ≤ z := by omega
      have hz1 : z < 3 := by omega
      simp only [go_sem, Nat.reduceAdd, Nat.reduceSub, Nat.reduceMul, Nat.reduceEqDiff, Nat.reduceLT, Nat.reduceLeDiff, Nat.reduceBEq, reduceIte, reduceCtorEq, Int.reduceToNat, Int.reduceLE, Int.reduceLT, Int.reduceBEq, Int.reduceBNe, hz0, hz1, hnm, bd_snoc]
      refine ⟨by omega, ?_⟩
      repeat (refine Cl.here ?_; simp only [go_sem, Nat.reduceAdd, Nat.reduceSub, Nat.reduceMul, Nat.reduceEqDiff, Nat.reduceLT, Nat.reduceLeDiff, Nat.reduceBEq, reduceIte, reduceCtorEq, Int.reduceToNat, Int.reduceLE, Int.reduceLT, Int.reduceBEq, Int.reduceBNe])
      (refine callC_pick [60, 1, 120] (pick_ok l hl _ (by simp) (by simp)) rfl rfl rfl rfl rfl (by decide) (by omega) (by omega) ?_; rintro _ at_ _ _ ⟨y, hmem, rfl⟩; simp only [List.mem_cons, List.not_mem_nil, or_false] at hmem; simp only [go_sem, Nat.reduceAdd, Nat.reduceSub, Nat.reduceMul, Nat.reduceEqDiff, Nat.reduceLT, Nat.reduceLeDiff, Nat.reduceBEq, reduceIte, reduceCtorEq, Int.reduceToNat, Int.reduceLE, Int.reduceLT, Int.reduceBEq, Int.reduceBNe])
      have hy : 1 ≤ y ∧ y ≤ 120 := by omega
      clear hmem
      rw [wrap_i64 (x := t + y) (by omega) (by omega)]
      (refine Cl.here ?_; simp only [go_sem, Nat.reduceAdd, Nat.reduceSub, Nat.reduceMul, Nat.reduceEqDiff, Nat.reduceLT, Nat.reduceLeDiff, Nat.reduceBEq, reduceIte, reduceCtorEq, Int.reduceToNat, Int.reduceLE, Int.reduceLT, Int.reduceBEq, Int.reduceBNe])
      rw [wrap_i64 (x := j - 1) (by omega) (by omega)]
      (refine Cl.tr [some 0, some 1, some 2, some 3] [] rfl rfl (by simp only [go_sem, Nat.reduceAdd, Nat.reduceSub, Nat.reduceMul, Nat.reduceEqDiff, Nat.reduceLT, Nat.reduceLeDiff, Nat.reduceBEq, reduceIte, reduceCtorEq, Int.reduceToNat, Int.reduceLE, Int.reduceLT, Int.reduceBEq, Int.reduceBNe] <;> rfl) ?_; simp only [go_sem, Nat.reduceAdd, Nat.reduceSub, Nat.reduceMul, Nat.reduceEqDiff, Nat.reduceLT, Nat.reduceLeDiff, Nat.reduceBEq, reduceIte, reduceCtorEq, Int.reduceToNat, Int.reduceLE, Int.reduceLT, Int.reduceBEq, Int.reduceBNe])
      refine Cl.here ⟨⟨at_, dy ++ [⟨nm, t⟩], j - 1, t + y, by simp, by simp, by omega, by omega, by omega, by simp; omega, bdsB_snoc hnp (by simp only; omega) hb (by simp only; omega) hlt, ?_, by omega, by omega⟩, ?_⟩
      · intro b hb
        rcases List.mem_append.1 hb with hb | hb
        · have := hlt b hb; omega
        · rw [List.mem_singleton] at hb; subst hb; simp only; omega
      · simp only [go_sem, Nat.reduceAdd, Nat.reduceSub, Nat.reduceMul, Nat.reduceEqDiff, Nat.reduceLT, Nat.reduceLeDiff, Nat.reduceBEq, reduceIte, reduceCtorEq, Int.reduceToNat, Int.reduceLE, Int.reduceLT, Int.reduceBEq, Int.reduceBNe]
        omega
    clear hlt
    (refine Cl.here ?_; simp only [go_sem, Nat.reduceAdd, Nat.reduceSub, Nat.reduceMul, Nat.reduceEqDiff, Nat.reduceLT, Nat.reduceLeDiff, Nat.reduceBEq, reduceIte, reduceCtorEq, Int.reduceToNat, Int.reduceLE, Int.reduceLT, Int.reduceBEq, Int.reduceBNe])
    (refine callC_pick [100, 480, 0, 2400] (pick_ok l hl _ (by simp) (by simp)) rfl rfl rfl rfl rfl (by decide) (by omega) (by omega) ?_; rintro _ at_ _ _ ⟨x2, hmem, rfl⟩; simp only [List.mem_cons, List.not_mem_nil, or_false] at hmem; simp only [go_sem, Nat.reduceAdd, Nat.reduceSub, Nat.reduceMul, Nat.reduceEqDiff, Nat.reduceLT, Nat.reduceLeDiff, Nat.reduceBEq, reduceIte, reduceCtorEq, Int.reduceToNat, Int.reduceLE, Int.reduceLT, Int.reduceBEq, Int.reduceBNe])
    have hx2 : 0 ≤ x2 ∧ x2 ≤ 2400 := by omega
    clear hmem
    repeat (refine Cl.here ?_; simp only [go_sem, Nat.reduceAdd, Nat.reduceSub, Nat.reduceMul, Nat.reduceEqDiff, Nat.reduceLT, Nat.reduceLeDiff, Nat.reduceBEq, reduceIte, reduceCtorEq, Int.reduceToNat, Int.reduceLE, Int.reduceLT, Int.reduceBEq, Int.reduceBNe])
    (refine callC_tape (next_ok l hl 3 (by omega)) rfl rfl (by omega) (by omega) ?_; rintro _ at_ _ _ ⟨ k2, rfl, _, _⟩; simp only [go_sem, Nat.reduceAdd, Nat.reduceSub, Nat.reduceMul, Nat.reduceEqDiff, Nat.reduceLT, Nat.reduceLeDiff, Nat.reduceBEq, reduceIte, reduceCtorEq, Int.reduceToNat, Int.reduceLE, Int.reduceLT, Int.reduceBEq, Int.reduceBNe])
    (refine Cl.here ?_; simp only [go_sem, Nat.reduceAdd, Nat.reduceSub, Nat.reduceMul, Nat.reduceEqDiff, Nat.reduceLT, Nat.reduceLeDiff, Nat.reduceBEq, reduceIte, reduceCtorEq, Int.reduceToNat, Int.reduceLE, Int.reduceLT, Int.reduceBEq, Int.reduceBNe])
    have hdl : dy.length ≤ 2 := by omega
    clear ht0 ht1
    refine avcW_loop (fun env rows => ∃ (a : Int) (wk : List Bd) (j t : Int), env = [(0, .ref 0 1 0 0), (1, .bool false), (4, .ref 1 1 0 0), (5, .ref 2 1 0 0), (6, .int .i64 t), (8, .int .i64 j)] ∧
        rows = [tapeRow 81 l a, .live 36 3 [[.str ⟨#[]⟩, .nils, .nils]], .live 36 3 [[.str nmN, .own 3 dy.length 0 dy.length, .own 4 wk.length 0 wk.length]], .live 55 2 (els dy), .live 55 2 (els wk)] ∧ 0 ≤ a ∧ a ≤ l.length ∧ 0 ≤ j ∧ wk.length + j ≤ 2 ∧ bdsB (-1) wk = true ∧ (∀ y ∈ wk, y.after < t) ∧ 0 ≤ t ∧ t + 600 * j ≤ 3600)
      (fun env _ => match slot env 8 with | .int _ j => j.toNat | _ => 0) ?_ ?_
    · (refine Cl.tr [some 0, some 1, some 2, some 3] [] rfl rfl (by simp only [go_sem, Nat.reduceAdd, Nat.reduceSub, Nat.reduceMul, Nat.reduceEqDiff, Nat.reduceLT, Nat.reduceLeDiff, Nat.reduceBEq, reduceIte, reduceCtorEq, Int.reduceToNat, Int.reduceLE, Int.reduceLT, Int.reduceBEq, Int.reduceBNe] <;> rfl) ?_; simp only [go_sem, Nat.reduceAdd, Nat.reduceSub, Nat.reduceMul, Nat.reduceEqDiff, Nat.reduceLT, Nat.reduceLeDiff, Nat.reduceBEq, reduceIte, reduceCtorEq, Int.reduceToNat, Int.reduceLE, Int.reduceLT, Int.reduceBEq, Int.reduceBNe])
      (refine Cl.step (.ghostC 2  0  2  55  2 rfl (by simp) (by decide) rfl) ?_; simp only [go_sem, Nat.reduceAdd, Nat.reduceSub, Nat.reduceMul, Nat.reduceEqDiff, Nat.reduceLT, Nat.reduceLeDiff, Nat.reduceBEq, reduceIte, reduceCtorEq, Int.reduceToNat, Int.reduceLE, Int.reduceLT, Int.reduceBEq, Int.reduceBNe, splice])
      exact Cl.here ⟨at_, [], k2, x2, rfl, rfl, by omega, by omega, by omega, by simp; omega, rfl, by simp, by omega, by omega⟩
    rintro env rows ⟨at_, wk, j, t, rfl, rfl, _, _, _, _, hbw, hlt, ht0, ht1⟩
    simp only [go_sem, Nat.reduceAdd, Nat.reduceSub, Nat.reduceMul, Nat.reduceEqDiff, Nat.reduceLT, Nat.reduceLeDiff, Nat.reduceBEq, reduceIte, reduceCtorEq, Int.reduceToNat, Int.reduceLE, Int.reduceLT, Int.reduceBEq, Int.reduceBNe, a18, a18r0, a18r1, a18r2, a18r3, a18r4, a18r5, a18r6, a18r7, a18r8, a18r9, a18r10, a18r11, a18r12, a18r13, a18r14, a18r15, a18r16, a18r17, a18r18, a18r19, a18r20, a18r21]
    repeat (refine Cl.here ?_; simp only [go_sem, Nat.reduceAdd, Nat.reduceSub, Nat.reduceMul, Nat.reduceEqDiff, Nat.reduceLT, Nat.reduceLeDiff, Nat.reduceBEq, reduceIte, reduceCtorEq, Int.reduceToNat, Int.reduceLE, Int.reduceLT, Int.reduceBEq, Int.reduceBNe])
    refine condW_intro ?_ ?_ <;> intro hg <;> simp only [decide_eq_true_eq, decide_eq_false_iff_not, beq_iff_eq, beq_eq_false_iff_ne, bne_iff_ne, bne_eq_false_iff_eq, Bool.not_eq_true', Bool.not_eq_false', Int.not_lt, Int.not_le, ne_eq, Bool.and_eq_true, Bool.or_eq_true, Bool.or_eq_false_iff, Bool.and_eq_false_iff] at hg <;> simp only [go_sem, Nat.reduceAdd, Nat.reduceSub, Nat.reduceMul, Nat.reduceEqDiff, Nat.reduceLT, Nat.reduceLeDiff, Nat.reduceBEq, reduceIte, reduceCtorEq, Int.reduceToNat, Int.reduceLE, Int.reduceLT, Int.reduceBEq, Int.reduceBNe, a18, a18r0, a18r1, a18r2, a18r3, a18r4, a18r5, a18r6, a18r7, a18r8, a18r9, a18r10, a18r11, a18r12, a18r13, a18r14, a18r15, a18r16, a18r17, a18r18, a18r19, a18r20, a18r21]
    · (refine Cl.here ?_; simp only [go_sem, Nat.reduceAdd, Nat.reduceSub, Nat.reduceMul, Nat.reduceEqDiff, Nat.reduceLT, Nat.reduceLeDiff, Nat.reduceBEq, reduceIte, reduceCtorEq, Int.reduceToNat, Int.reduceLE, Int.reduceLT, Int.reduceBEq, Int.reduceBNe])
      (refine callD_tape (next_ok l hl 3 (by omega)) (by simp only [go_sem, Nat.reduceAdd, Nat.reduceSub, Nat.reduceMul, Nat.reduceEqDiff, Nat.reduceLT, Nat.reduceLeDiff, Nat.reduceBEq, reduceIte, reduceCtorEq, Int.reduceToNat, Int.reduceLE, Int.reduceLT, Int.reduceBEq, Int.reduceBNe]) rfl rfl (by omega) (by omega) ?_; rintro _ at_ _ _ ⟨ z, rfl, _, _⟩; simp only [go_sem, Nat.reduceAdd, Nat.reduceSub, Nat.reduceMul, Nat.reduceEqDiff, Nat.reduceLT, Nat.reduceLeDiff, Nat.reduceBEq, reduceIte, reduceCtorEq, Int.reduceToNat, Int.reduceLE, Int.reduceLT, Int.reduceBEq, Int.reduceBNe])
      obtain ⟨nm, hnm, hnp⟩ := nm_pick (s0 := ⟨#[119, 49]⟩) (s1 := ⟨#[119, 50]⟩) (s2 := ⟨#[111, 116, 49]⟩) (by decide) (by decide) (by decide) (z := z) (by omega) (by omega)
      have hz0 : (0 : Int) ≤ z := by omega
      have hz1 : z < 3 := by omega
      simp only [go_sem, Nat.reduceAdd, Nat.reduceSub, Nat.reduceMul, Nat.reduceEqDiff, Nat.reduceLT, Nat.reduceLeDiff, Nat.reduceBEq, reduceIte, reduceCtorEq, Int.reduceToNat, Int.reduceLE, Int.reduceLT, Int.reduceBEq, Int.reduceBNe, hz0, hz1, hnm, bd_snoc]
      refine ⟨by omega, ?_⟩
      repeat (refine Cl.here ?_; simp only [go_sem, Nat.reduceAdd, Nat.reduceSub, Nat.reduceMul, Nat.reduceEqDiff, Nat.reduceLT, Nat.reduceLeDiff, Nat.reduceBEq, reduceIte, reduceCtorEq, Int.reduceToNat, Int.reduceLE, Int.reduceLT, Int.reduceBEq, Int.reduceBNe])
      (refine callC_pick [60, 1, 600] (pick_ok l hl _ (by simp) (by simp)) rfl rfl rfl rfl rfl (by decide) (by omega) (by omega) ?_; rintro _ at_ _ _ ⟨y, hmem, rfl⟩; simp only [List.mem_cons, List.not_mem_nil, or_false] at hmem; simp only [go_sem, Nat.reduceAdd, Nat.reduceSub, Nat.reduceMul, Nat.reduceEqDiff, Nat.reduceLT, Nat.reduceLeDiff, Nat.reduceBEq, reduceIte, reduceCtorEq, Int.reduceToNat, Int.reduceLE, Int.reduceLT, Int.reduceBEq, Int.reduceBNe])
      have hy : 1 ≤ y ∧ y ≤ 600 := by omega
      clear hmem
      rw [wrap_i64 (x := t + y) (by omega) (by omega)]
      (refine Cl.here ?_; simp only [go_sem, Nat.reduceAdd, Nat.reduceSub, Nat.reduceMul, Nat.reduceEqDiff, Nat.reduceLT, Nat.reduceLeDiff, Nat.reduceBEq, reduceIte, reduceCtorEq, Int.reduceToNat, Int.reduceLE, Int.reduceLT, Int.reduceBEq, Int.reduceBNe])
      rw [wrap_i64 (x := j - 1) (by omega) (by omega)]
      (refine Cl.tr [some 0, some 1, some 2, some 3, some 4] [] rfl rfl (by simp only [go_sem, Nat.reduceAdd, Nat.reduceSub, Nat.reduceMul, Nat.reduceEqDiff, Nat.reduceLT, Nat.reduceLeDiff, Nat.reduceBEq, reduceIte, reduceCtorEq, Int.reduceToNat, Int.reduceLE, Int.reduceLT, Int.reduceBEq, Int.reduceBNe] <;> rfl) ?_; simp only [go_sem, Nat.reduceAdd, Nat.reduceSub, Nat.reduceMul, Nat.reduceEqDiff, Nat.reduceLT, Nat.reduceLeDiff, Nat.reduceBEq, reduceIte, reduceCtorEq, Int.reduceToNat, Int.reduceLE, Int.reduceLT, Int.reduceBEq, Int.reduceBNe])
      refine Cl.here ⟨⟨at_, wk ++ [⟨nm, t⟩], j - 1, t + y, by simp, by simp, by omega, by omega, by omega, by simp; omega, bdsB_snoc hnp (by simp only; omega) hbw (by simp only; omega) hlt, ?_, by omega, by omega⟩, ?_⟩
      · intro b hb
        rcases List.mem_append.1 hb with hb | hb
        · have := hlt b hb; omega
        · rw [List.mem_singleton] at hb; subst hb; simp only; omega
      · simp only [go_sem, Nat.reduceAdd, Nat.reduceSub, Nat.reduceMul, Nat.reduceEqDiff, Nat.reduceLT, Nat.reduceLeDiff, Nat.reduceBEq, reduceIte, reduceCtorEq, Int.reduceToNat, Int.reduceLE, Int.reduceLT, Int.reduceBEq, Int.reduceBNe]
        omega
    repeat (refine Cl.here ?_; simp only [go_sem, Nat.reduceAdd, Nat.reduceSub, Nat.reduceMul, Nat.reduceEqDiff, Nat.reduceLT, Nat.reduceLeDiff, Nat.reduceBEq, reduceIte, reduceCtorEq, Int.reduceToNat, Int.reduceLE, Int.reduceLT, Int.reduceBEq, Int.reduceBNe])
    (refine Cl.frz [some 0] [ 3, 4] rfl rfl (by simp only [go_sem, Nat.reduceAdd, Nat.reduceSub, Nat.reduceMul, Nat.reduceEqDiff, Nat.reduceLT, Nat.reduceLeDiff, Nat.reduceBEq, reduceIte, reduceCtorEq, Int.reduceToNat, Int.reduceLE, Int.reduceLT, Int.reduceBEq, Int.reduceBNe] <;> rfl) ?_; simp only [go_sem, Nat.reduceAdd, Nat.reduceSub, Nat.reduceMul, Nat.reduceEqDiff, Nat.reduceLT, Nat.reduceLeDiff, Nat.reduceBEq, reduceIte, reduceCtorEq, Int.reduceToNat, Int.reduceLE, Int.reduceLT, Int.reduceBEq, Int.reduceBNe])
    exact Cl.here ⟨at_, ⟨nmN, dy, wk⟩, rfl, rfl, by omega, by omega, rfl, hdl, by simp only; omega, hb, hbw⟩

/-- the minutes of valid intervals -/
def mnI : List Iv → Int
  | [] => 0
  | v :: vs => (if ivP v.fr v.to then v.to - v.fr else 0) + mnI vs
theorem mnI_append : ∀ (a b : List Iv), mnI (a ++ b) = mnI a + mnI b
  | [], b => by simp [mnI]
  | x :: a, b => by simp only [List.cons_append, mnI, mnI_append a b]; omega
theorem mnI_bd : ∀ (l : List Iv), 0 ≤ mnI l ∧ mnI l ≤ 120968640 * l.length
  | [] => by simp [mnI]
  | v :: l => by
    have := mnI_bd l
    simp only [mnI, List.length_cons]
    split
    · rename_i h; unfold ivP at h; omega
    · omega
theorem minutes_ok (L : List Iv) (hL : L.length ≤ 1000000) : AFn Try.prog 21 [.pure 2 (els L)] [] (fun v rs => v = .int .i64 (mnI L) ∧ rs = []) := by
  refine afn Try.func21 a21_ok (by simp [a21]) ?_
  simp only [go_sem, Nat.reduceAdd, Nat.reduceSub, Nat.reduceMul, Nat.reduceEqDiff, Nat.reduceLT, Nat.reduceLeDiff, Nat.reduceBEq, reduceIte, reduceCtorEq, Int.reduceToNat, Int.reduceLE, Int.reduceLT, Int.reduceBEq, Int.reduceBNe, a21, a21r0, a21r1, a21r2, a21r3, a21r4, a21r5, a21r6, a21r7]
  refine avc_loop (fun env rows => ∃ i : Nat, i ≤ L.length ∧ env = [(0, .pure 2 (els L)), (3, .int .i64 (mnI (L.take i))), (4, .int .i64 i)] ∧ rows = [])
    (fun env _ => match slot env 4 with | .int _ j => (L.length - j).toNat | _ => 0) ?_ ?_
  · exact Cl.here ⟨0, by omega, rfl, rfl⟩
  rintro env rows ⟨i, hi, rfl, rfl⟩
  have hw : IntKind.i64.wrap ((i : Int) + 1) = ((i + 1 : Nat) : Int) := by rw [wrap_i64 (by omega) (by omega)]; omega
  have hbd := mnI_bd (L.take i)
  have htl : (L.take i).length ≤ 1000000 := by rw [List.length_take]; omega
  simp only [go_sem, Nat.reduceAdd, Nat.reduceSub, Nat.reduceMul, Nat.reduceEqDiff, Nat.reduceLT, Nat.reduceLeDiff, Nat.reduceBEq, reduceIte, reduceCtorEq, Int.reduceToNat, Int.reduceLE, Int.reduceLT, Int.reduceBEq, Int.reduceBNe, a21, a21r0, a21r1, a21r2, a21r3, a21r4, a21r5, a21r6, a21r7]
  refine condC_intro ?_ ?_ <;> intro hg2 <;> simp only [decide_eq_true_eq, decide_eq_false_iff_not, beq_iff_eq, beq_eq_false_iff_ne, bne_iff_ne, bne_eq_false_iff_eq, Bool.not_eq_true', Bool.not_eq_false', Int.not_lt, Int.not_le, ne_eq, Bool.and_eq_true, Bool.or_eq_true, Bool.or_eq_false_iff, Bool.and_eq_false_iff] at hg2 <;> simp only [go_sem, Nat.reduceAdd, Nat.reduceSub, Nat.reduceMul, Nat.reduceEqDiff, Nat.reduceLT, Nat.reduceLeDiff, Nat.reduceBEq, reduceIte, reduceCtorEq, Int.reduceToNat, Int.reduceLE, Int.reduceLT, Int.reduceBEq, Int.reduceBNe, a21, a21r0, a21r1, a21r2, a21r3, a21r4, a21r5, a21r6, a21r7]
  · have hlt : i < L.length := by omega
    have hT : mnI (L.take (i + 1)) = mnI (L.take i) + (if ivP L[i].fr L[i].to then L[i].to - L[i].fr else 0) := by
      rw [List.take_add_one, List.getElem?_eq_getElem hlt, Option.toList_some, mnI_append]; simp [mnI]
    have hgi : (els L).getD i [] = [.int .i64 L[i].fr, .int .i64 L[i].to] := by rw [els_getD hlt, cel_iv]
    have hi0 : (0 : Int) ≤ i := by omega
    have hi1 : (i : Int) < L.length := by omega
    simp only [go_sem, Nat.reduceAdd, Nat.reduceSub, Nat.reduceMul, Nat.reduceEqDiff, Nat.reduceLT, Nat.reduceLeDiff, Nat.reduceBEq, reduceIte, reduceCtorEq, Int.reduceToNat, Int.reduceLE, Int.reduceLT, Int.reduceBEq, Int.reduceBNe, hi0, hi1, hgi]
    refine callC_det (isInterval_ok _ _) rfl rfl ?_
    by_cases hv : ivP L[i].fr L[i].to
    · rw [if_pos hv] at hT
      have hv1 := hv
      unfold ivP at hv1
      simp only [go_sem, Nat.reduceAdd, Nat.reduceSub, Nat.reduceMul, Nat.reduceEqDiff, Nat.reduceLT, Nat.reduceLeDiff, Nat.reduceBEq, reduceIte, reduceCtorEq, Int.reduceToNat, Int.reduceLE, Int.reduceLT, Int.reduceBEq, Int.reduceBNe, hv, hi0, hi1, hgi]
      rw [wrap_i64 (x := L[i].to - L[i].fr) (by omega) (by omega), wrap_i64 (x := mnI (L.take i) + (L[i].to - L[i].fr)) (by omega) (by omega), hw, ← hT]
      refine Cl.here ⟨⟨i + 1, by omega, rfl, rfl⟩, ?_⟩
      simp only [go_sem, Nat.reduceAdd, Nat.reduceSub, Nat.reduceMul, Nat.reduceEqDiff, Nat.reduceLT, Nat.reduceLeDiff, Nat.reduceBEq, reduceIte, reduceCtorEq, Int.reduceToNat, Int.reduceLE, Int.reduceLT, Int.reduceBEq, Int.reduceBNe]
      omega
    · rw [if_neg hv] at hT
      simp only [go_sem, Nat.reduceAdd, Nat.reduceSub, Nat.reduceMul, Nat.reduceEqDiff, Nat.reduceLT, Nat.reduceLeDiff, Nat.reduceBEq, reduceIte, reduceCtorEq, Int.reduceToNat, Int.reduceLE, Int.reduceLT, Int.reduceBEq, Int.reduceBNe, hv, hw]
      refine Cl.here ⟨⟨i + 1, by omega, by rw [hT]; simp, rfl⟩, ?_⟩
      simp only [go_sem, Nat.reduceAdd, Nat.reduceSub, Nat.reduceMul, Nat.reduceEqDiff, Nat.reduceLT, Nat.reduceLeDiff, Nat.reduceBEq, reduceIte, reduceCtorEq, Int.reduceToNat, Int.reduceLE, Int.reduceLT, Int.reduceBEq, Int.reduceBNe]
      omega
  · obtain rfl : i = L.length := by omega
    rw [List.take_length]
    exact Cl.fin rfl ⟨rfl, rfl⟩

end Go.Proofs.Ytodbafiepdcfbaa
