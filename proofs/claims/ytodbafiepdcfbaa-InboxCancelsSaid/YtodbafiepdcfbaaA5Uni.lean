/- union of package inbox. -/
import Derived.Test.YtodbafiepdcfbaaA5Comp
set_option linter.unusedSimpArgs false
set_option linter.unusedVariables false
set_option linter.unusedSectionVars false
namespace Go.Proofs.Ytodbafiepdcfbaa
open Go Go.Abs
set_option linter.unusedSimpArgs false
set_option linter.unusedVariables false

theorem union_ok (a b : List Ev) (ha : a.length ≤ 1000000) (hb : b.length ≤ 1000000) : AFn Try.prog 59 [.pure 7 (els a), .pure 7 (els b)] []
    (fun v rs => v = .own 0 (uni (a ++ b)).length 0 (uni (a ++ b)).length ∧ rs = [.live 64 7 (els (uni (a ++ b)))]) := by
  refine afnW Try.func59 a59_ok (by simp [a59]) ?_
  simp only [go_sem, Nat.reduceAdd, Nat.reduceSub, Nat.reduceMul, Nat.reduceEqDiff, Nat.reduceLT, Nat.reduceLeDiff, Nat.reduceBEq, reduceIte, reduceCtorEq, Int.reduceToNat, Int.reduceLE, Int.reduceLT, Int.reduceBEq, Int.reduceBNe, a59, a59r0, a59r1, a59r2, a59r3]
  repeat (refine Cl.here ?_; simp only [go_sem, Nat.reduceAdd, Nat.reduceSub, Nat.reduceMul, Nat.reduceEqDiff, Nat.reduceLT, Nat.reduceLeDiff, Nat.reduceBEq, reduceIte, reduceCtorEq, Int.reduceToNat, Int.reduceLE, Int.reduceLT, Int.reduceBEq, Int.reduceBNe])
  have hl : (a ++ b).length ≤ 2000000 := by rw [List.length_append]; omega
  (refine callC_of [0] [] (by decide) (by simp only [go_sem, Nat.reduceAdd, Nat.reduceSub, Nat.reduceMul, Nat.reduceEqDiff, Nat.reduceLT, Nat.reduceLeDiff, Nat.reduceBEq, reduceIte, reduceCtorEq, Int.reduceToNat, Int.reduceLE, Int.reduceLT, Int.reduceBEq, Int.reduceBNe] <;> rfl) (by simp only [go_sem, Nat.reduceAdd, Nat.reduceSub, Nat.reduceMul, Nat.reduceEqDiff, Nat.reduceLT, Nat.reduceLeDiff, Nat.reduceBEq, reduceIte, reduceCtorEq, Int.reduceToNat, Int.reduceLE, Int.reduceLT, Int.reduceBEq, Int.reduceBNe] <;> rfl) (concat_ok a b (by omega) (by omega)) ?_; rintro _ _ ⟨rfl, rfl⟩; refine ⟨.inl rfl, ?_⟩; simp only [go_sem, Nat.reduceAdd, Nat.reduceSub, Nat.reduceMul, Nat.reduceEqDiff, Nat.reduceLT, Nat.reduceLeDiff, Nat.reduceBEq, reduceIte, reduceCtorEq, Int.reduceToNat, Int.reduceLE, Int.reduceLT, Int.reduceBEq, Int.reduceBNe])
  generalize hX : a ++ b = X at *
  repeat (refine Cl.here ?_; simp only [go_sem, Nat.reduceAdd, Nat.reduceSub, Nat.reduceMul, Nat.reduceEqDiff, Nat.reduceLT, Nat.reduceLeDiff, Nat.reduceBEq, reduceIte, reduceCtorEq, Int.reduceToNat, Int.reduceLE, Int.reduceLT, Int.reduceBEq, Int.reduceBNe])
  (refine callC_of [1] [] (by decide) (by simp only [go_sem, Nat.reduceAdd, Nat.reduceSub, Nat.reduceMul, Nat.reduceEqDiff, Nat.reduceLT, Nat.reduceLeDiff, Nat.reduceBEq, reduceIte, reduceCtorEq, Int.reduceToNat, Int.reduceLE, Int.reduceLT, Int.reduceBEq, Int.reduceBNe] <;> rfl) (by simp only [go_sem, Nat.reduceAdd, Nat.reduceSub, Nat.reduceMul, Nat.reduceEqDiff, Nat.reduceLT, Nat.reduceLeDiff, Nat.reduceBEq, reduceIte, reduceCtorEq, Int.reduceToNat, Int.reduceLE, Int.reduceLT, Int.reduceBEq, Int.reduceBNe] <;> rfl) (sortE_ok X (by omega)) ?_; rintro _ _ ⟨rfl, l', hp, hs, rfl⟩; refine ⟨.inl rfl, ?_⟩; simp only [go_sem, Nat.reduceAdd, Nat.reduceSub, Nat.reduceMul, Nat.reduceEqDiff, Nat.reduceLT, Nat.reduceLeDiff, Nat.reduceBEq, reduceIte, reduceCtorEq, Int.reduceToNat, Int.reduceLE, Int.reduceLT, Int.reduceBEq, Int.reduceBNe])
  have hl' := hp.length_eq
  rw [← hl'] at hl ⊢
  repeat (refine Cl.here ?_; simp only [go_sem, Nat.reduceAdd, Nat.reduceSub, Nat.reduceMul, Nat.reduceEqDiff, Nat.reduceLT, Nat.reduceLeDiff, Nat.reduceBEq, reduceIte, reduceCtorEq, Int.reduceToNat, Int.reduceLE, Int.reduceLT, Int.reduceBEq, Int.reduceBNe])
  (refine callC_of [1] [] (by decide) (by simp only [go_sem, Nat.reduceAdd, Nat.reduceSub, Nat.reduceMul, Nat.reduceEqDiff, Nat.reduceLT, Nat.reduceLeDiff, Nat.reduceBEq, reduceIte, reduceCtorEq, Int.reduceToNat, Int.reduceLE, Int.reduceLT, Int.reduceBEq, Int.reduceBNe] <;> rfl) (by simp only [go_sem, Nat.reduceAdd, Nat.reduceSub, Nat.reduceMul, Nat.reduceEqDiff, Nat.reduceLT, Nat.reduceLeDiff, Nat.reduceBEq, reduceIte, reduceCtorEq, Int.reduceToNat, Int.reduceLE, Int.reduceLT, Int.reduceBEq, Int.reduceBNe] <;> rfl) (compactE_ok l' (by omega)) ?_; rintro _ _ ⟨rfl, rfl⟩; refine ⟨.inl rfl, ?_⟩; simp only [go_sem, Nat.reduceAdd, Nat.reduceSub, Nat.reduceMul, Nat.reduceEqDiff, Nat.reduceLT, Nat.reduceLeDiff, Nat.reduceBEq, reduceIte, reduceCtorEq, Int.reduceToNat, Int.reduceLE, Int.reduceLT, Int.reduceBEq, Int.reduceBNe])
  have hle := dd_le l'
  have hu := dd_uni hp hs
  rw [hu] at hle ⊢
  repeat (refine Cl.here ?_; simp only [go_sem, Nat.reduceAdd, Nat.reduceSub, Nat.reduceMul, Nat.reduceEqDiff, Nat.reduceLT, Nat.reduceLeDiff, Nat.reduceBEq, reduceIte, reduceCtorEq, Int.reduceToNat, Int.reduceLE, Int.reduceLT, Int.reduceBEq, Int.reduceBNe])
  refine Cl.step (.cut (vals := els (uni X ++ List.replicate (l'.length - (uni X).length) ⟨0, 0, 0, 0, 0, 0, 0⟩)) 0 1 l'.length (uni X).length rfl rfl (by rw [els_length, List.length_append, List.length_replicate]; omega)) ?_
  have ht : (els (uni X ++ List.replicate (l'.length - (uni X).length) (⟨0, 0, 0, 0, 0, 0, 0⟩ : Ev))).take (uni X).length = els (uni X) := by
    unfold els
    rw [← List.map_take, List.take_left]
  rw [ht]
  simp only [go_sem, Nat.reduceAdd, Nat.reduceSub, Nat.reduceMul, Nat.reduceEqDiff, Nat.reduceLT, Nat.reduceLeDiff, Nat.reduceBEq, reduceIte, reduceCtorEq, Int.reduceToNat, Int.reduceLE, Int.reduceLT, Int.reduceBEq, Int.reduceBNe]
  (refine Cl.tr [some 2] [] rfl rfl (by simp only [go_sem, Nat.reduceAdd, Nat.reduceSub, Nat.reduceMul, Nat.reduceEqDiff, Nat.reduceLT, Nat.reduceLeDiff, Nat.reduceBEq, reduceIte, reduceCtorEq, Int.reduceToNat, Int.reduceLE, Int.reduceLT, Int.reduceBEq, Int.reduceBNe] <;> rfl) ?_; simp only [go_sem, Nat.reduceAdd, Nat.reduceSub, Nat.reduceMul, Nat.reduceEqDiff, Nat.reduceLT, Nat.reduceLeDiff, Nat.reduceBEq, reduceIte, reduceCtorEq, Int.reduceToNat, Int.reduceLE, Int.reduceLT, Int.reduceBEq, Int.reduceBNe])
  exact Cl.here ⟨rfl, rfl⟩

theorem cmpI_vals (a b : Int) : cmpI a b = -1 ∨ cmpI a b = 0 ∨ cmpI a b = 1 := by unfold cmpI; split <;> (try split) <;> simp
theorem orL_vals : ∀ {xs : List Int}, (∀ x ∈ xs, x = -1 ∨ x = 0 ∨ x = 1) → orL xs = -1 ∨ orL xs = 0 ∨ orL xs = 1
  | [], _ => by simp [orL]
  | x :: xs, h => by
    rw [orL]
    split
    · exact orL_vals fun y hy => h y (List.mem_cons_of_mem _ hy)
    · exact h x List.mem_cons_self
theorem orL_zero : ∀ {xs : List Int}, orL xs = 0 ↔ ∀ x ∈ xs, x = 0
  | [] => by simp [orL]
  | x :: xs => by
    rw [orL]
    split
    · next h => rw [orL_zero]; simp [h]
    · next h => simp [h]
theorem cmpK_vals (a b : Ky) : cmpK a b = -1 ∨ cmpK a b = 0 ∨ cmpK a b = 1 := orL_vals (by simp [cmpI_vals])
theorem cmpE_vals (a b : Ev) : cmpE a b = -1 ∨ cmpE a b = 0 ∨ cmpE a b = 1 := orL_vals (by simp [cmpI_vals, cmpK_vals])
theorem cmpE_zero {a b : Ev} : cmpE a b = 0 ↔ a = b := by
  unfold cmpE
  rw [orL_zero]
  simp only [List.mem_cons, List.not_mem_nil, or_false, forall_eq_or_imp, forall_eq, cmpK_zero, cmpI_zero]
  constructor
  · rintro ⟨⟨h1, h2⟩, h3, h4, h5, h6, h7⟩
    exact Ev.ext' h1 h2 h3 h4 h5 h6 h7
  · rintro rfl
    simp
theorem cmpE_lt {a b : Ev} (h : eLt a b) : cmpE a b = -1 := by
  have := cmpE_vals a b
  have := cmpE_neg.2 h
  omega
theorem cmpE_gt {a b : Ev} (h : eLt b a) : cmpE a b = 1 := by
  have h1 := cmpE_vals a b
  have h2 : ¬ cmpE a b < 0 := fun h3 => eLt_asymm h (cmpE_neg.1 h3)
  have h3 : ¬ cmpE a b = 0 := fun h3 => eLt_irrefl a (by have := cmpE_zero.1 h3; subst this; exact h)
  omega
theorem cmpE_pos {a b : Ev} : 0 < cmpE a b ↔ eLt b a := by
  constructor
  · intro h
    apply Classical.byContradiction
    intro h2
    by_cases h3 : eLt a b
    · have := cmpE_lt h3; omega
    · have := cmpE_zero.2 (eLt_total h3 h2); omega
  · intro h; have := cmpE_gt h; omega

theorem rCompare_ok (a b : Ev) : AFn Try.prog 31 [.agg (Cel.c a), .agg (Cel.c b)] [] (fun v rs => v = .int .i64 (cmpE a b) ∧ rs = []) := by
  refine afn Try.func31 a31_ok (by simp [a31]) ?_
  simp only [go_sem, Nat.reduceAdd, Nat.reduceSub, Nat.reduceMul, Nat.reduceEqDiff, Nat.reduceLT, Nat.reduceLeDiff, Nat.reduceBEq, reduceIte, reduceCtorEq, Int.reduceToNat, Int.reduceLE, Int.reduceLT, Int.reduceBEq, Int.reduceBNe, a31, a31r0, a31r1, a31r2, a31r3, a31r4, a31r5, a31r6, a31r7, a31r8, a31r9, a31r10, cel_ev]
  refine avc_loop (fun env rows => ∃ i : Int, 0 ≤ i ∧ i ≤ 7 ∧ (1 ≤ i → a.kt = b.kt) ∧ (2 ≤ i → a.ks = b.ks) ∧ (3 ≤ i → a.emp = b.emp) ∧ (4 ≤ i → a.time = b.time) ∧ (5 ≤ i → a.kind = b.kind) ∧ (6 ≤ i → a.tt = b.tt) ∧ (7 ≤ i → a.ts = b.ts) ∧ env = [(5, .ref 0 1 0 0), (6, .ref 1 1 0 0), (7, .int .i64 i)] ∧ rows = [.live 104 7 [[.int .i64 a.kt, .int .i64 a.ks, .int .i64 a.emp, .int .i64 a.time, .int .i64 a.kind, .int .i64 a.tt, .int .i64 a.ts]], .live 104 7 [[.int .i64 b.kt, .int .i64 b.ks, .int .i64 b.emp, .int .i64 b.time, .int .i64 b.kind, .int .i64 b.tt, .int .i64 b.ts]]])
    (fun env _ => match slot env 7 with | .int _ j => (7 - j).toNat | _ => 0) ?_ ?_
  · (refine Cl.tr [some 2, some 3] [] rfl rfl (by simp only [go_sem, Nat.reduceAdd, Nat.reduceSub, Nat.reduceMul, Nat.reduceEqDiff, Nat.reduceLT, Nat.reduceLeDiff, Nat.reduceBEq, reduceIte, reduceCtorEq, Int.reduceToNat, Int.reduceLE, Int.reduceLT, Int.reduceBEq, Int.reduceBNe] <;> rfl) ?_; simp only [go_sem, Nat.reduceAdd, Nat.reduceSub, Nat.reduceMul, Nat.reduceEqDiff, Nat.reduceLT, Nat.reduceLeDiff, Nat.reduceBEq, reduceIte, reduceCtorEq, Int.reduceToNat, Int.reduceLE, Int.reduceLT, Int.reduceBEq, Int.reduceBNe])
    exact Cl.here ⟨0, by omega, by omega, by omega, by omega, by omega, by omega, by omega, by omega, by omega, rfl, rfl⟩
  rintro env rows ⟨i, i0, i7, e1, e2, e3, e4, e5, e6, e7, rfl, rfl⟩
  have hi : i = 0 ∨ i = 1 ∨ i = 2 ∨ i = 3 ∨ i = 4 ∨ i = 5 ∨ i = 6 ∨ i = 7 := by omega
  rcases hi with rfl | rfl | rfl | rfl | rfl | rfl | rfl | rfl
  · have w : IntKind.i64.wrap (0 + 1) = 1 := by rw [wrap_i64 (by omega) (by omega)]; omega
    simp only [go_sem, Nat.reduceAdd, Nat.reduceSub, Nat.reduceMul, Nat.reduceEqDiff, Nat.reduceLT, Nat.reduceLeDiff, Nat.reduceBEq, reduceIte, reduceCtorEq, Int.reduceToNat, Int.reduceLE, Int.reduceLT, Int.reduceBEq, Int.reduceBNe, a31, a31r0, a31r1, a31r2, a31r3, a31r4, a31r5, a31r6, a31r7, a31r8, a31r9, a31r10]
    refine condC_intro ?_ ?_ <;> intro hg <;> simp only [decide_eq_true_eq, decide_eq_false_iff_not, beq_iff_eq, beq_eq_false_iff_ne, bne_iff_ne, bne_eq_false_iff_eq, Bool.not_eq_true', Bool.not_eq_false', Int.not_lt, Int.not_le, ne_eq, Bool.and_eq_true, Bool.or_eq_true, Bool.or_eq_false_iff, Bool.and_eq_false_iff] at hg <;> simp only [go_sem, Nat.reduceAdd, Nat.reduceSub, Nat.reduceMul, Nat.reduceEqDiff, Nat.reduceLT, Nat.reduceLeDiff, Nat.reduceBEq, reduceIte, reduceCtorEq, Int.reduceToNat, Int.reduceLE, Int.reduceLT, Int.reduceBEq, Int.reduceBNe, a31, a31r0, a31r1, a31r2, a31r3, a31r4, a31r5, a31r6, a31r7, a31r8, a31r9, a31r10]
    · exact Cl.fin rfl ⟨by rw [cmpE_lt (by unfold eLt; omega)], rfl⟩
    refine condC_intro ?_ ?_ <;> intro hg2 <;> simp only [decide_eq_true_eq, decide_eq_false_iff_not, beq_iff_eq, beq_eq_false_iff_ne, bne_iff_ne, bne_eq_false_iff_eq, Bool.not_eq_true', Bool.not_eq_false', Int.not_lt, Int.not_le, ne_eq, Bool.and_eq_true, Bool.or_eq_true, Bool.or_eq_false_iff, Bool.and_eq_false_iff] at hg2 <;> simp only [go_sem, Nat.reduceAdd, Nat.reduceSub, Nat.reduceMul, Nat.reduceEqDiff, Nat.reduceLT, Nat.reduceLeDiff, Nat.reduceBEq, reduceIte, reduceCtorEq, Int.reduceToNat, Int.reduceLE, Int.reduceLT, Int.reduceBEq, Int.reduceBNe, a31, a31r0, a31r1, a31r2, a31r3, a31r4, a31r5, a31r6, a31r7, a31r8, a31r9, a31r10, w]
    · exact Cl.fin rfl ⟨by rw [cmpE_gt (by unfold eLt; omega)], rfl⟩
    refine Cl.here ⟨⟨1, by omega, by omega, by omega, by omega, by omega, by omega, by omega, by omega, by omega, rfl, rfl⟩, ?_⟩
    simp only [go_sem, Nat.reduceAdd, Nat.reduceSub, Nat.reduceMul, Nat.reduceEqDiff, Nat.reduceLT, Nat.reduceLeDiff, Nat.reduceBEq, reduceIte, reduceCtorEq, Int.reduceToNat, Int.reduceLE, Int.reduceLT, Int.reduceBEq, Int.reduceBNe]
    omega
  · have w : IntKind.i64.wrap (1 + 1) = 2 := by rw [wrap_i64 (by omega) (by omega)]; omega
    simp only [go_sem, Nat.reduceAdd, Nat.reduceSub, Nat.reduceMul, Nat.reduceEqDiff, Nat.reduceLT, Nat.reduceLeDiff, Nat.reduceBEq, reduceIte, reduceCtorEq, Int.reduceToNat, Int.reduceLE, Int.reduceLT, Int.reduceBEq, Int.reduceBNe, a31, a31r0, a31r1, a31r2, a31r3, a31r4, a31r5, a31r6, a31r7, a31r8, a31r9, a31r10]
    refine condC_intro ?_ ?_ <;> intro hg <;> simp only [decide_eq_true_eq, decide_eq_false_iff_not, beq_iff_eq, beq_eq_false_iff_ne, bne_iff_ne, bne_eq_false_iff_eq, Bool.not_eq_true', Bool.not_eq_false', Int.not_lt, Int.not_le, ne_eq, Bool.and_eq_true, Bool.or_eq_true, Bool.or_eq_false_iff, Bool.and_eq_false_iff] at hg <;> simp only [go_sem, Nat.reduceAdd, Nat.reduceSub, Nat.reduceMul, Nat.reduceEqDiff, Nat.reduceLT, Nat.reduceLeDiff, Nat.reduceBEq, reduceIte, reduceCtorEq, Int.reduceToNat, Int.reduceLE, Int.reduceLT, Int.reduceBEq, Int.reduceBNe, a31, a31r0, a31r1, a31r2, a31r3, a31r4, a31r5, a31r6, a31r7, a31r8, a31r9, a31r10]
    · exact Cl.fin rfl ⟨by rw [cmpE_lt (by unfold eLt; omega)], rfl⟩
    refine condC_intro ?_ ?_ <;> intro hg2 <;> simp only [decide_eq_true_eq, decide_eq_false_iff_not, beq_iff_eq, beq_eq_false_iff_ne, bne_iff_ne, bne_eq_false_iff_eq, Bool.not_eq_true', Bool.not_eq_false', Int.not_lt, Int.not_le, ne_eq, Bool.and_eq_true, Bool.or_eq_true, Bool.or_eq_false_iff, Bool.and_eq_false_iff] at hg2 <;> simp only [go_sem, Nat.reduceAdd, Nat.reduceSub, Nat.reduceMul, Nat.reduceEqDiff, Nat.reduceLT, Nat.reduceLeDiff, Nat.reduceBEq, reduceIte, reduceCtorEq, Int.reduceToNat, Int.reduceLE, Int.reduceLT, Int.reduceBEq, Int.reduceBNe, a31, a31r0, a31r1, a31r2, a31r3, a31r4, a31r5, a31r6, a31r7, a31r8, a31r9, a31r10, w]
    · exact Cl.fin rfl ⟨by rw [cmpE_gt (by unfold eLt; omega)], rfl⟩
    refine Cl.here ⟨⟨2, by omega, by omega, by omega, by omega, by omega, by omega, by omega, by omega, by omega, rfl, rfl⟩, ?_⟩
    simp only [go_sem, Nat.reduceAdd, Nat.reduceSub, Nat.reduceMul, Nat.reduceEqDiff, Nat.reduceLT, Nat.reduceLeDiff, Nat.reduceBEq, reduceIte, reduceCtorEq, Int.reduceToNat, Int.reduceLE, Int.reduceLT, Int.reduceBEq, Int.reduceBNe]
    omega
  · have w : IntKind.i64.wrap (2 + 1) = 3 := by rw [wrap_i64 (by omega) (by omega)]; omega
    simp only [go_sem, Nat.reduceAdd, Nat.reduceSub, Nat.reduceMul, Nat.reduceEqDiff, Nat.reduceLT, Nat.reduceLeDiff, Nat.reduceBEq, reduceIte, reduceCtorEq, Int.reduceToNat, Int.reduceLE, Int.reduceLT, Int.reduceBEq, Int.reduceBNe, a31, a31r0, a31r1, a31r2, a31r3, a31r4, a31r5, a31r6, a31r7, a31r8, a31r9, a31r10]
    refine condC_intro ?_ ?_ <;> intro hg <;> simp only [decide_eq_true_eq, decide_eq_false_iff_not, beq_iff_eq, beq_eq_false_iff_ne, bne_iff_ne, bne_eq_false_iff_eq, Bool.not_eq_true', Bool.not_eq_false', Int.not_lt, Int.not_le, ne_eq, Bool.and_eq_true, Bool.or_eq_true, Bool.or_eq_false_iff, Bool.and_eq_false_iff] at hg <;> simp only [go_sem, Nat.reduceAdd, Nat.reduceSub, Nat.reduceMul, Nat.reduceEqDiff, Nat.reduceLT, Nat.reduceLeDiff, Nat.reduceBEq, reduceIte, reduceCtorEq, Int.reduceToNat, Int.reduceLE, Int.reduceLT, Int.reduceBEq, Int.reduceBNe, a31, a31r0, a31r1, a31r2, a31r3, a31r4, a31r5, a31r6, a31r7, a31r8, a31r9, a31r10]
    · exact Cl.fin rfl ⟨by rw [cmpE_lt (by unfold eLt; omega)], rfl⟩
    refine condC_intro ?_ ?_ <;> intro hg2 <;> simp only [decide_eq_true_eq, decide_eq_false_iff_not, beq_iff_eq, beq_eq_false_iff_ne, bne_iff_ne, bne_eq_false_iff_eq, Bool.not_eq_true', Bool.not_eq_false', Int.not_lt, Int.not_le, ne_eq, Bool.and_eq_true, Bool.or_eq_true, Bool.or_eq_false_iff, Bool.and_eq_false_iff] at hg2 <;> simp only [go_sem, Nat.reduceAdd, Nat.reduceSub, Nat.reduceMul, Nat.reduceEqDiff, Nat.reduceLT, Nat.reduceLeDiff, Nat.reduceBEq, reduceIte, reduceCtorEq, Int.reduceToNat, Int.reduceLE, Int.reduceLT, Int.reduceBEq, Int.reduceBNe, a31, a31r0, a31r1, a31r2, a31r3, a31r4, a31r5, a31r6, a31r7, a31r8, a31r9, a31r10, w]
    · exact Cl.fin rfl ⟨by rw [cmpE_gt (by unfold eLt; omega)], rfl⟩
    refine Cl.here ⟨⟨3, by omega, by omega, by omega, by omega, by omega, by omega, by omega, by omega, by omega, rfl, rfl⟩, ?_⟩
    simp only [go_sem, Nat.reduceAdd, Nat.reduceSub, Nat.reduceMul, Nat.reduceEqDiff, Nat.reduceLT, Nat.reduceLeDiff, Nat.reduceBEq, reduceIte, reduceCtorEq, Int.reduceToNat, Int.reduceLE, Int.reduceLT, Int.reduceBEq, Int.reduceBNe]
    omega
  · have w : IntKind.i64.wrap (3 + 1) = 4 := by rw [wrap_i64 (by omega) (by omega)]; omega
    simp only [go_sem, Nat.reduceAdd, Nat.reduceSub, Nat.reduceMul, Nat.reduceEqDiff, Nat.reduceLT, Nat.reduceLeDiff, Nat.reduceBEq, reduceIte, reduceCtorEq, Int.reduceToNat, Int.reduceLE, Int.reduceLT, Int.reduceBEq, Int.reduceBNe, a31, a31r0, a31r1, a31r2, a31r3, a31r4, a31r5, a31r6, a31r7, a31r8, a31r9, a31r10]
    refine condC_intro ?_ ?_ <;> intro hg <;> simp only [decide_eq_true_eq, decide_eq_false_iff_not, beq_iff_eq, beq_eq_false_iff_ne, bne_iff_ne, bne_eq_false_iff_eq, Bool.not_eq_true', Bool.not_eq_false', Int.not_lt, Int.not_le, ne_eq, Bool.and_eq_true, Bool.or_eq_true, Bool.or_eq_false_iff, Bool.and_eq_false_iff] at hg <;> simp only [go_sem, Nat.reduceAdd, Nat.reduceSub, Nat.reduceMul, Nat.reduceEqDiff, Nat.reduceLT, Nat.reduceLeDiff, Nat.reduceBEq, reduceIte, reduceCtorEq, Int.reduceToNat, Int.reduceLE, Int.reduceLT, Int.reduceBEq, Int.reduceBNe, a31, a31r0, a31r1, a31r2, a31r3, a31r4, a31r5, a31r6, a31r7, a31r8, a31r9, a31r10]
    · exact Cl.fin rfl ⟨by rw [cmpE_lt (by unfold eLt; omega)], rfl⟩
    refine condC_intro ?_ ?_ <;> intro hg2 <;> simp only [decide_eq_true_eq, decide_eq_false_iff_not, beq_iff_eq, beq_eq_false_iff_ne, bne_iff_ne, bne_eq_false_iff_eq, Bool.not_eq_true', Bool.not_eq_false', Int.not_lt, Int.not_le, ne_eq, Bool.and_eq_true, Bool.or_eq_true, Bool.or_eq_false_iff, Bool.and_eq_false_iff] at hg2 <;> simp only [go_sem, Nat.reduceAdd, Nat.reduceSub, Nat.reduceMul, Nat.reduceEqDiff, Nat.reduceLT, Nat.reduceLeDiff, Nat.reduceBEq, reduceIte, reduceCtorEq, Int.reduceToNat, Int.reduceLE, Int.reduceLT, Int.reduceBEq, Int.reduceBNe, a31, a31r0, a31r1, a31r2, a31r3, a31r4, a31r5, a31r6, a31r7, a31r8, a31r9, a31r10, w]
    · exact Cl.fin rfl ⟨by rw [cmpE_gt (by unfold eLt; omega)], rfl⟩
    refine Cl.here ⟨⟨4, by omega, by omega, by omega, by omega, by omega, by omega, by omega, by omega, by omega, rfl, rfl⟩, ?_⟩
    simp only [go_sem, Nat.reduceAdd, Nat.reduceSub, Nat.reduceMul, Nat.reduceEqDiff, Nat.reduceLT, Nat.reduceLeDiff, Nat.reduceBEq, reduceIte, reduceCtorEq, Int.reduceToNat, Int.reduceLE, Int.reduceLT, Int.reduceBEq, Int.reduceBNe]
    omega
  · have w : IntKind.i64.wrap (4 + 1) = 5 := by rw [wrap_i64 (by omega) (by omega)]; omega
    simp only [go_sem, Nat.reduceAdd, Nat.reduceSub, Nat.reduceMul, Nat.reduceEqDiff, Nat.reduceLT, Nat.reduceLeDiff, Nat.reduceBEq, reduceIte, reduceCtorEq, Int.reduceToNat, Int.reduceLE, Int.reduceLT, Int.reduceBEq, Int.reduceBNe, a31, a31r0, a31r1, a31r2, a31r3, a31r4, a31r5, a31r6, a31r7, a31r8, a31r9, a31r10]
    refine condC_intro ?_ ?_ <;> intro hg <;> simp only [decide_eq_true_eq, decide_eq_false_iff_not, beq_iff_eq, beq_eq_false_iff_ne, bne_iff_ne, bne_eq_false_iff_eq, Bool.not_eq_true', Bool.not_eq_false', Int.not_lt, Int.not_le, ne_eq, Bool.and_eq_true, Bool.or_eq_true, Bool.or_eq_false_iff, Bool.and_eq_false_iff] at hg <;> simp only [go_sem, Nat.reduceAdd, Nat.reduceSub, Nat.reduceMul, Nat.reduceEqDiff, Nat.reduceLT, Nat.reduceLeDiff, Nat.reduceBEq, reduceIte, reduceCtorEq, Int.reduceToNat, Int.reduceLE, Int.reduceLT, Int.reduceBEq, Int.reduceBNe, a31, a31r0, a31r1, a31r2, a31r3, a31r4, a31r5, a31r6, a31r7, a31r8, a31r9, a31r10]
    · exact Cl.fin rfl ⟨by rw [cmpE_lt (by unfold eLt; omega)], rfl⟩
    refine condC_intro ?_ ?_ <;> intro hg2 <;> simp only [decide_eq_true_eq, decide_eq_false_iff_not, beq_iff_eq, beq_eq_false_iff_ne, bne_iff_ne, bne_eq_false_iff_eq, Bool.not_eq_true', Bool.not_eq_false', Int.not_lt, Int.not_le, ne_eq, Bool.and_eq_true, Bool.or_eq_true, Bool.or_eq_false_iff, Bool.and_eq_false_iff] at hg2 <;> simp only [go_sem, Nat.reduceAdd, Nat.reduceSub, Nat.reduceMul, Nat.reduceEqDiff, Nat.reduceLT, Nat.reduceLeDiff, Nat.reduceBEq, reduceIte, reduceCtorEq, Int.reduceToNat, Int.reduceLE, Int.reduceLT, Int.reduceBEq, Int.reduceBNe, a31, a31r0, a31r1, a31r2, a31r3, a31r4, a31r5, a31r6, a31r7, a31r8, a31r9, a31r10, w]
    · exact Cl.fin rfl ⟨by rw [cmpE_gt (by unfold eLt; omega)], rfl⟩
    refine Cl.here ⟨⟨5, by omega, by omega, by omega, by omega, by omega, by omega, by omega, by omega, by omega, rfl, rfl⟩, ?_⟩
    simp only [go_sem, Nat.reduceAdd, Nat.reduceSub, Nat.reduceMul, Nat.reduceEqDiff, Nat.reduceLT, Nat.reduceLeDiff, Nat.reduceBEq, reduceIte, reduceCtorEq, Int.reduceToNat, Int.reduceLE, Int.reduceLT, Int.reduceBEq, Int.reduceBNe]
    omega
  · have w : IntKind.i64.wrap (5 + 1) = 6 := by rw [wrap_i64 (by omega) (by omega)]; omega
    simp only [go_sem, Nat.reduceAdd, Nat.reduceSub, Nat.reduceMul, Nat.reduceEqDiff, Nat.reduceLT, Nat.reduceLeDiff, Nat.reduceBEq, reduceIte, reduceCtorEq, Int.reduceToNat, Int.reduceLE, Int.reduceLT, Int.reduceBEq, Int.reduceBNe, a31, a31r0, a31r1, a31r2, a31r3, a31r4, a31r5, a31r6, a31r7, a31r8, a31r9, a31r10]
    refine condC_intro ?_ ?_ <;> intro hg <;> simp only [decide_eq_true_eq, decide_eq_false_iff_not, beq_iff_eq, beq_eq_false_iff_ne, bne_iff_ne, bne_eq_false_iff_eq, Bool.not_eq_true', Bool.not_eq_false', Int.not_lt, Int.not_le, ne_eq, Bool.and_eq_true, Bool.or_eq_true, Bool.or_eq_false_iff, Bool.and_eq_false_iff] at hg <;> simp only [go_sem, Nat.reduceAdd, Nat.reduceSub, Nat.reduceMul, Nat.reduceEqDiff, Nat.reduceLT, Nat.reduceLeDiff, Nat.reduceBEq, reduceIte, reduceCtorEq, Int.reduceToNat, Int.reduceLE, Int.reduceLT, Int.reduceBEq, Int.reduceBNe, a31, a31r0, a31r1, a31r2, a31r3, a31r4, a31r5, a31r6, a31r7, a31r8, a31r9, a31r10]
    · exact Cl.fin rfl ⟨by rw [cmpE_lt (by unfold eLt; omega)], rfl⟩
    refine condC_intro ?_ ?_ <;> intro hg2 <;> simp only [decide_eq_true_eq, decide_eq_false_iff_not, beq_iff_eq, beq_eq_false_iff_ne, bne_iff_ne, bne_eq_false_iff_eq, Bool.not_eq_true', Bool.not_eq_false', Int.not_lt, Int.not_le, ne_eq, Bool.and_eq_true, Bool.or_eq_true, Bool.or_eq_false_iff, Bool.and_eq_false_iff] at hg2 <;> simp only [go_sem, Nat.reduceAdd, Nat.reduceSub, Nat.reduceMul, Nat.reduceEqDiff, Nat.reduceLT, Nat.reduceLeDiff, Nat.reduceBEq, reduceIte, reduceCtorEq, Int.reduceToNat, Int.reduceLE, Int.reduceLT, Int.reduceBEq, Int.reduceBNe, a31, a31r0, a31r1, a31r2, a31r3, a31r4, a31r5, a31r6, a31r7, a31r8, a31r9, a31r10, w]
    · exact Cl.fin rfl ⟨by rw [cmpE_gt (by unfold eLt; omega)], rfl⟩
    refine Cl.here ⟨⟨6, by omega, by omega, by omega, by omega, by omega, by omega, by omega, by omega, by omega, rfl, rfl⟩, ?_⟩
    simp only [go_sem, Nat.reduceAdd, Nat.reduceSub, Nat.reduceMul, Nat.reduceEqDiff, Nat.reduceLT, Nat.reduceLeDiff, Nat.reduceBEq, reduceIte, reduceCtorEq, Int.reduceToNat, Int.reduceLE, Int.reduceLT, Int.reduceBEq, Int.reduceBNe]
    omega
  · have w : IntKind.i64.wrap (6 + 1) = 7 := by rw [wrap_i64 (by omega) (by omega)]; omega
    simp only [go_sem, Nat.reduceAdd, Nat.reduceSub, Nat.reduceMul, Nat.reduceEqDiff, Nat.reduceLT, Nat.reduceLeDiff, Nat.reduceBEq, reduceIte, reduceCtorEq, Int.reduceToNat, Int.reduceLE, Int.reduceLT, Int.reduceBEq, Int.reduceBNe, a31, a31r0, a31r1, a31r2, a31r3, a31r4, a31r5, a31r6, a31r7, a31r8, a31r9, a31r10]
    refine condC_intro ?_ ?_ <;> intro hg <;> simp only [decide_eq_true_eq, decide_eq_false_iff_not, beq_iff_eq, beq_eq_false_iff_ne, bne_iff_ne, bne_eq_false_iff_eq, Bool.not_eq_true', Bool.not_eq_false', Int.not_lt, Int.not_le, ne_eq, Bool.and_eq_true, Bool.or_eq_true, Bool.or_eq_false_iff, Bool.and_eq_false_iff] at hg <;> simp only [go_sem, Nat.reduceAdd, Nat.reduceSub, Nat.reduceMul, Nat.reduceEqDiff, Nat.reduceLT, Nat.reduceLeDiff, Nat.reduceBEq, reduceIte, reduceCtorEq, Int.reduceToNat, Int.reduceLE, Int.reduceLT, Int.reduceBEq, Int.reduceBNe, a31, a31r0, a31r1, a31r2, a31r3, a31r4, a31r5, a31r6, a31r7, a31r8, a31r9, a31r10]
    · exact Cl.fin rfl ⟨by rw [cmpE_lt (by unfold eLt; omega)], rfl⟩
    refine condC_intro ?_ ?_ <;> intro hg2 <;> simp only [decide_eq_true_eq, decide_eq_false_iff_not, beq_iff_eq, beq_eq_false_iff_ne, bne_iff_ne, bne_eq_false_iff_eq, Bool.not_eq_true', Bool.not_eq_false', Int.not_lt, Int.not_le, ne_eq, Bool.and_eq_true, Bool.or_eq_true, Bool.or_eq_false_iff, Bool.and_eq_false_iff] at hg2 <;> simp only [go_sem, Nat.reduceAdd, Nat.reduceSub, Nat.reduceMul, Nat.reduceEqDiff, Nat.reduceLT, Nat.reduceLeDiff, Nat.reduceBEq, reduceIte, reduceCtorEq, Int.reduceToNat, Int.reduceLE, Int.reduceLT, Int.reduceBEq, Int.reduceBNe, a31, a31r0, a31r1, a31r2, a31r3, a31r4, a31r5, a31r6, a31r7, a31r8, a31r9, a31r10, w]
    · exact Cl.fin rfl ⟨by rw [cmpE_gt (by unfold eLt; omega)], rfl⟩
    refine Cl.here ⟨⟨7, by omega, by omega, by omega, by omega, by omega, by omega, by omega, by omega, by omega, rfl, rfl⟩, ?_⟩
    simp only [go_sem, Nat.reduceAdd, Nat.reduceSub, Nat.reduceMul, Nat.reduceEqDiff, Nat.reduceLT, Nat.reduceLeDiff, Nat.reduceBEq, reduceIte, reduceCtorEq, Int.reduceToNat, Int.reduceLE, Int.reduceLT, Int.reduceBEq, Int.reduceBNe]
    omega
  · simp only [go_sem, Nat.reduceAdd, Nat.reduceSub, Nat.reduceMul, Nat.reduceEqDiff, Nat.reduceLT, Nat.reduceLeDiff, Nat.reduceBEq, reduceIte, reduceCtorEq, Int.reduceToNat, Int.reduceLE, Int.reduceLT, Int.reduceBEq, Int.reduceBNe, a31, a31r0, a31r1, a31r2, a31r3, a31r4, a31r5, a31r6, a31r7, a31r8, a31r9, a31r10]
    have e : a = b := Ev.ext' (by omega) (by omega) (by omega) (by omega) (by omega) (by omega) (by omega)
    exact Cl.fin rfl ⟨by rw [cmpE_zero.2 e], rfl⟩

end Go.Proofs.Ytodbafiepdcfbaa
