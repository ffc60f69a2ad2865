/- RestMonotone: the walk. -/
import Derived.Test.YtaloobgfgehhdaaGreatR6Rst6
set_option linter.unusedSimpArgs false
set_option linter.unusedVariables false
set_option linter.unusedSectionVars false
namespace Go.Proofs.YtaloobgfgehhdaaGreat
open Go Go.Abs
set_option linter.unusedSimpArgs false
set_option linter.unusedVariables false

theorem filter_sub {α : Type} {p q : α → Bool} (h : ∀ x, p x = true → q x = true) : ∀ l : List α, (l.filter p).Sublist (l.filter q)
  | [] => List.Sublist.refl _
  | x :: l => by
    have ih := filter_sub h l
    rw [List.filter_cons, List.filter_cons]
    by_cases hp : p x = true
    · rw [if_pos hp, if_pos (h x hp)]
      exact ih.cons_cons x
    · rw [if_neg hp]
      split
      · exact ih.cons x
      · exact ih
def dlyA (B : List Bk) : List Br := match B with | [] => [] | b :: bs => rests (max 0 b.to) bs
theorem dly_all {n f t : Int} {B : List Bk} : dly n f t true 0 B = (dlyA B).filter (brIn n f t) := by
  unfold dly dlyA
  cases B <;> simp
theorem dly_sub {n n' f t : Int} {B : List Bk} (h : n ≤ n') : (dly n f t true 0 B).Sublist (dly n' f t true 0 B) := by
  rw [dly_all, dly_all]
  refine filter_sub (fun x hx => ?_) _
  simp only [brIn, Bool.and_eq_true, decide_eq_true_eq] at hx ⊢
  omega
theorem wk_sub {n n' : Int} {L : List Br} (h : n ≤ n') : (L.filter (brLt n)).Sublist (L.filter (brLt n')) := by
  refine filter_sub (fun x hx => ?_) _
  simp only [brLt, decide_eq_true_eq] at hx ⊢
  omega
instance : DecidableEq Br := fun a b => by
  cases a; cases b
  simp only [Br.mk.injEq]
  infer_instance
/-- one of a list -/
def inB (x : Br) (l : List Br) : Bool := l.any fun y => decide (x = y)
theorem inB_take {x : Br} {l : List Br} {j : Nat} (h : j < l.length) : inB x (l.take (j + 1)) = (inB x (l.take j) || decide (x = l[j])) := by
  unfold inB
  rw [List.take_add_one, List.getElem?_eq_getElem h, Option.toList_some, List.any_append]
  simp
theorem inB_mem {x : Br} {l : List Br} (h : x ∈ l) : inB x l = true := by
  unfold inB
  rw [List.any_eq_true]
  exact ⟨x, h, by simp⟩
theorem eqBr {a b : Br} : eqCells [.int .i64 a.kind, .int .i64 a.day, .int .i64 a.min] [.int .i64 b.kind, .int .i64 b.day, .int .i64 b.min] = decide (a = b) := by
  cases a; cases b
  simp only [eqCells, Br.mk.injEq]
  rw [Bool.eq_iff_iff]
  simp

set_option maxHeartbeats 2000000 in
theorem restMonotone (l : List Int) (hl : TapeOk l) (n : Int) : AFn Tryz.prog 3 [.pure 1 (numsE .i64 l), .int .i64 n] [] (fun v _ => v = .bool true) := by
  refine afnW Tryz.func3 a3_ok (by simp [a3]) ?_
  simp only [go_sem, Nat.reduceAdd, Nat.reduceSub, Nat.reduceMul, Nat.reduceEqDiff, Nat.reduceLT, Nat.reduceLeDiff, Nat.reduceBEq, reduceIte, reduceCtorEq, Int.reduceToNat, Int.reduceLE, Int.reduceLT, Int.reduceBEq, Int.reduceBNe, a3, a3r0, a3r1, a3r2, a3r3, a3r4, a3r5, a3r6, a3r7, a3r8, a3r9, a3r10, a3r11, a3r12, a3r13, a3r14, a3r15, a3r16, a3r17, a3r18, a3r19]
  repeat (refine Cl.here ?_; simp only [go_sem, Nat.reduceAdd, Nat.reduceSub, Nat.reduceMul, Nat.reduceEqDiff, Nat.reduceLT, Nat.reduceLeDiff, Nat.reduceBEq, reduceIte, reduceCtorEq, Int.reduceToNat, Int.reduceLE, Int.reduceLT, Int.reduceBEq, Int.reduceBNe])
  (refine callC_of [] [] (by simp) rfl (bindL_clean _ (by first | rfl | simp only [go_sem, Nat.reduceAdd, Nat.reduceSub, Nat.reduceMul, Nat.reduceEqDiff, Nat.reduceLT, Nat.reduceLeDiff, Nat.reduceBEq, reduceIte, reduceCtorEq, Int.reduceToNat, Int.reduceLE, Int.reduceLT, Int.reduceBEq, Int.reduceBNe])) (new_ok l) ?_; rintro _ _ ⟨rfl, rfl⟩; refine ⟨.inl rfl, ?_⟩; simp only [go_sem, Nat.reduceAdd, Nat.reduceSub, Nat.reduceMul, Nat.reduceEqDiff, Nat.reduceLT, Nat.reduceLeDiff, Nat.reduceBEq, reduceIte, reduceCtorEq, Int.reduceToNat, Int.reduceLE, Int.reduceLT, Int.reduceBEq, Int.reduceBNe])
  repeat (refine Cl.here ?_; simp only [go_sem, Nat.reduceAdd, Nat.reduceSub, Nat.reduceMul, Nat.reduceEqDiff, Nat.reduceLT, Nat.reduceLeDiff, Nat.reduceBEq, reduceIte, reduceCtorEq, Int.reduceToNat, Int.reduceLE, Int.reduceLT, Int.reduceBEq, Int.reduceBNe])
  (refine callC_of [0] [] (by decide) (by simp only [go_sem, Nat.reduceAdd, Nat.reduceSub, Nat.reduceMul, Nat.reduceEqDiff, Nat.reduceLT, Nat.reduceLeDiff, Nat.reduceBEq, reduceIte, reduceCtorEq, Int.reduceToNat, Int.reduceLE, Int.reduceLT, Int.reduceBEq, Int.reduceBNe] <;> rfl) (by simp only [go_sem, Nat.reduceAdd, Nat.reduceSub, Nat.reduceMul, Nat.reduceEqDiff, Nat.reduceLT, Nat.reduceLeDiff, Nat.reduceBEq, reduceIte, reduceCtorEq, Int.reduceToNat, Int.reduceLE, Int.reduceLT, Int.reduceBEq, Int.reduceBNe] <;> rfl) (zone_ok l hl 0 (by omega) (by omega)) ?_; rintro _ _ ⟨at_, z, rfl, rfl, h0, h1, hz, hz3⟩; refine ⟨.inl rfl, ?_⟩; simp only [go_sem, Nat.reduceAdd, Nat.reduceSub, Nat.reduceMul, Nat.reduceEqDiff, Nat.reduceLT, Nat.reduceLeDiff, Nat.reduceBEq, reduceIte, reduceCtorEq, Int.reduceToNat, Int.reduceLE, Int.reduceLT, Int.reduceBEq, Int.reduceBNe])
  (refine callC_of [0] [] (by decide) (by simp only [go_sem, Nat.reduceAdd, Nat.reduceSub, Nat.reduceMul, Nat.reduceEqDiff, Nat.reduceLT, Nat.reduceLeDiff, Nat.reduceBEq, reduceIte, reduceCtorEq, Int.reduceToNat, Int.reduceLE, Int.reduceLT, Int.reduceBEq, Int.reduceBNe] <;> rfl) (by simp only [go_sem, Nat.reduceAdd, Nat.reduceSub, Nat.reduceMul, Nat.reduceEqDiff, Nat.reduceLT, Nat.reduceLeDiff, Nat.reduceBEq, reduceIte, reduceCtorEq, Int.reduceToNat, Int.reduceLE, Int.reduceLT, Int.reduceBEq, Int.reduceBNe] <;> rfl) (works_ok l hl 6 (by omega) (by omega) at_ h0 h1) ?_; rintro _ _ ⟨at_, ws, rfl, rfl, h0, h1, hn, hg, hdj⟩; refine ⟨.inl rfl, ?_⟩; simp only [go_sem, Nat.reduceAdd, Nat.reduceSub, Nat.reduceMul, Nat.reduceEqDiff, Nat.reduceLT, Nat.reduceLeDiff, Nat.reduceBEq, reduceIte, reduceCtorEq, Int.reduceToNat, Int.reduceLE, Int.reduceLT, Int.reduceBEq, Int.reduceBNe])
  unfold tp Zn.v
  simp only [go_sem, Nat.reduceAdd, Nat.reduceSub, Nat.reduceMul, Nat.reduceEqDiff, Nat.reduceLT, Nat.reduceLeDiff, Nat.reduceBEq, reduceIte, reduceCtorEq, Int.reduceToNat, Int.reduceLE, Int.reduceLT, Int.reduceBEq, Int.reduceBNe]
  have hv := mk_sp (by omega) hg hdj
  (refine Cl.frz [some 0, some 2] [ 1] rfl rfl (by simp only [go_sem, Nat.reduceAdd, Nat.reduceSub, Nat.reduceMul, Nat.reduceEqDiff, Nat.reduceLT, Nat.reduceLeDiff, Nat.reduceBEq, reduceIte, reduceCtorEq, Int.reduceToNat, Int.reduceLE, Int.reduceLT, Int.reduceBEq, Int.reduceBNe] <;> rfl) ?_; simp only [go_sem, Nat.reduceAdd, Nat.reduceSub, Nat.reduceMul, Nat.reduceEqDiff, Nat.reduceLT, Nat.reduceLeDiff, Nat.reduceBEq, reduceIte, reduceCtorEq, Int.reduceToNat, Int.reduceLE, Int.reduceLT, Int.reduceBEq, Int.reduceBNe])
  (refine Cl.here ?_; simp only [go_sem, Nat.reduceAdd, Nat.reduceSub, Nat.reduceMul, Nat.reduceEqDiff, Nat.reduceLT, Nat.reduceLeDiff, Nat.reduceBEq, reduceIte, reduceCtorEq, Int.reduceToNat, Int.reduceLE, Int.reduceLT, Int.reduceBEq, Int.reduceBNe])
  (refine callC_tape (next_ok l hl 700 (by omega)) rfl rfl (by omega) (by omega) ?_; rintro _ at_ _ _ ⟨ d, rfl, _, _⟩; simp only [go_sem, Nat.reduceAdd, Nat.reduceSub, Nat.reduceMul, Nat.reduceEqDiff, Nat.reduceLT, Nat.reduceLeDiff, Nat.reduceBEq, reduceIte, reduceCtorEq, Int.reduceToNat, Int.reduceLE, Int.reduceLT, Int.reduceBEq, Int.reduceBNe])
  rw [wrap_i64 (x := 1 + d) (by omega) (by omega)]
  (refine callC_tape (next_ok l hl 5000 (by omega)) rfl rfl (by omega) (by omega) ?_; rintro _ at_ _ _ ⟨ w, rfl, _, _⟩; simp only [go_sem, Nat.reduceAdd, Nat.reduceSub, Nat.reduceMul, Nat.reduceEqDiff, Nat.reduceLT, Nat.reduceLeDiff, Nat.reduceBEq, reduceIte, reduceCtorEq, Int.reduceToNat, Int.reduceLE, Int.reduceLT, Int.reduceBEq, Int.reduceBNe])
  rw [wrap_i64 (x := 1 + w) (by omega) (by omega)]
  (refine Cl.here ?_; simp only [go_sem, Nat.reduceAdd, Nat.reduceSub, Nat.reduceMul, Nat.reduceEqDiff, Nat.reduceLT, Nat.reduceLeDiff, Nat.reduceBEq, reduceIte, reduceCtorEq, Int.reduceToNat, Int.reduceLE, Int.reduceLT, Int.reduceBEq, Int.reduceBNe])
  have ha := mod_bounds (v := n) (n := 740) (by omega)
  have hb := mod_bounds (v := n) (n := 5000) (by omega)
  refine callD_det (mod_ok n 740 (by omega) (by omega)) rfl rfl ?_
  generalize mod n 740 = x at ha ⊢
  simp only [go_sem, Nat.reduceAdd, Nat.reduceSub, Nat.reduceMul, Nat.reduceEqDiff, Nat.reduceLT, Nat.reduceLeDiff, Nat.reduceBEq, reduceIte, reduceCtorEq, Int.reduceToNat, Int.reduceLE, Int.reduceLT, Int.reduceBEq, Int.reduceBNe]
  rw [wrap_i64 (x := 1 + d + x) (by omega) (by omega)]
  refine callD_det (mod_ok n 5000 (by omega) (by omega)) rfl rfl ?_
  generalize mod n 5000 = y at hb ⊢
  simp only [go_sem, Nat.reduceAdd, Nat.reduceSub, Nat.reduceMul, Nat.reduceEqDiff, Nat.reduceLT, Nat.reduceLeDiff, Nat.reduceBEq, reduceIte, reduceCtorEq, Int.reduceToNat, Int.reduceLE, Int.reduceLT, Int.reduceBEq, Int.reduceBNe]
  rw [wrap_i64 (x := 1 + w + y) (by omega) (by omega)]
  (refine Cl.tr [some 1, some 2, some 3] [] rfl rfl (by simp only [go_sem, Nat.reduceAdd, Nat.reduceSub, Nat.reduceMul, Nat.reduceEqDiff, Nat.reduceLT, Nat.reduceLeDiff, Nat.reduceBEq, reduceIte, reduceCtorEq, Int.reduceToNat, Int.reduceLE, Int.reduceLT, Int.reduceBEq, Int.reduceBNe] <;> rfl) ?_; simp only [go_sem, Nat.reduceAdd, Nat.reduceSub, Nat.reduceMul, Nat.reduceEqDiff, Nat.reduceLT, Nat.reduceLeDiff, Nat.reduceBEq, reduceIte, reduceCtorEq, Int.reduceToNat, Int.reduceLE, Int.reduceLT, Int.reduceBEq, Int.reduceBNe])
  (repeat (first | (refine Cl.here ?_; simp only [go_sem, Nat.reduceAdd, Nat.reduceSub, Nat.reduceMul, Nat.reduceEqDiff, Nat.reduceLT, Nat.reduceLeDiff, Nat.reduceBEq, reduceIte, reduceCtorEq, Int.reduceToNat, Int.reduceLE, Int.reduceLT, Int.reduceBEq, Int.reduceBNe]) | simp only [go_sem, Nat.reduceAdd, Nat.reduceSub, Nat.reduceMul, Nat.reduceEqDiff, Nat.reduceLT, Nat.reduceLeDiff, Nat.reduceBEq, reduceIte, reduceCtorEq, Int.reduceToNat, Int.reduceLE, Int.reduceLT, Int.reduceBEq, Int.reduceBNe]))
  (refine callC_of [] [] (by simp) rfl (bindL_clean _ (by first | rfl | simp only [go_sem, Nat.reduceAdd, Nat.reduceSub, Nat.reduceMul, Nat.reduceEqDiff, Nat.reduceLT, Nat.reduceLeDiff, Nat.reduceBEq, reduceIte, reduceCtorEq, Int.reduceToNat, Int.reduceLE, Int.reduceLT, Int.reduceBEq, Int.reduceBNe])) (checkDW_ok z ⟨1 + d, 1 + w, 0, 0⟩ ws 20447 20474 ⟨hz, by simp only [rrP]; exact ⟨by omega, by omega, by omega, by omega, trivial⟩, hv, by omega, by omega, by omega, by omega⟩ (by simp only; omega) (by simp only; omega) rfl) ?_; rintro _ _ ⟨B1, D1, S1, hB1, hD1, hS1, rfl, rfl⟩; refine ⟨.inl rfl, ?_⟩; simp only [go_sem, Nat.reduceAdd, Nat.reduceSub, Nat.reduceMul, Nat.reduceEqDiff, Nat.reduceLT, Nat.reduceLeDiff, Nat.reduceBEq, reduceIte, reduceCtorEq, Int.reduceToNat, Int.reduceLE, Int.reduceLT, Int.reduceBEq, Int.reduceBNe])
  (repeat (first | (refine Cl.here ?_; simp only [go_sem, Nat.reduceAdd, Nat.reduceSub, Nat.reduceMul, Nat.reduceEqDiff, Nat.reduceLT, Nat.reduceLeDiff, Nat.reduceBEq, reduceIte, reduceCtorEq, Int.reduceToNat, Int.reduceLE, Int.reduceLT, Int.reduceBEq, Int.reduceBNe]) | simp only [go_sem, Nat.reduceAdd, Nat.reduceSub, Nat.reduceMul, Nat.reduceEqDiff, Nat.reduceLT, Nat.reduceLeDiff, Nat.reduceBEq, reduceIte, reduceCtorEq, Int.reduceToNat, Int.reduceLE, Int.reduceLT, Int.reduceBEq, Int.reduceBNe]))
  (refine callC_of [] [] (by simp) rfl (bindL_clean _ (by first | rfl | simp only [go_sem, Nat.reduceAdd, Nat.reduceSub, Nat.reduceMul, Nat.reduceEqDiff, Nat.reduceLT, Nat.reduceLeDiff, Nat.reduceBEq, reduceIte, reduceCtorEq, Int.reduceToNat, Int.reduceLE, Int.reduceLT, Int.reduceBEq, Int.reduceBNe])) (checkDW_ok z ⟨1 + d + x, 1 + w + y, 0, 0⟩ ws 20447 20474 ⟨hz, by simp only [rrP]; exact ⟨by omega, by omega, by omega, by omega, trivial⟩, hv, by omega, by omega, by omega, by omega⟩ (by simp only; omega) (by simp only; omega) rfl) ?_; rintro _ _ ⟨B2, D2, S2, hB2, hD2, hS2, rfl, rfl⟩; refine ⟨.inl rfl, ?_⟩; simp only [go_sem, Nat.reduceAdd, Nat.reduceSub, Nat.reduceMul, Nat.reduceEqDiff, Nat.reduceLT, Nat.reduceLeDiff, Nat.reduceBEq, reduceIte, reduceCtorEq, Int.reduceToNat, Int.reduceLE, Int.reduceLT, Int.reduceBEq, Int.reduceBNe])
  obtain rfl := hB2.uniq hB1
  obtain rfl := hS2.uniq hv hS1
  have hml := mds_len (f := 20447) (t := 20474) (by omega) (by omega) (by omega)
  have hBl := (hB2.bd hv).1
  have s1 := dly_sub (n := 1 + d) (n' := 1 + d + x) (f := 20447) (t := 20474) (B := B2) (by omega)
  have s2 := wk_sub (n := 1 + w) (n' := 1 + w + y) (L := wkR z S2 (mds 20447 20474)) (by omega)
  simp only at hD1 hD2
  have hlen : (D1 ++ (wkR z S2 (mds 20447 20474)).filter (brLt (1 + w))).length ≤ (D2 ++ (wkR z S2 (mds 20447 20474)).filter (brLt (1 + w + y))).length := by
    rw [List.length_append, List.length_append, hD1.length_eq, hD2.length_eq]
    have := s1.length_le
    have := s2.length_le
    omega
  have hsub : ∀ e ∈ D1 ++ (wkR z S2 (mds 20447 20474)).filter (brLt (1 + w)), e ∈ D2 ++ (wkR z S2 (mds 20447 20474)).filter (brLt (1 + w + y)) := by
    intro e he
    rw [List.mem_append] at he ⊢
    exact he.imp (fun h => hD2.mem_iff.2 (s1.subset (hD1.mem_iff.1 h))) fun h => s2.subset h
  have hb2 : (D2 ++ (wkR z S2 (mds 20447 20474)).filter (brLt (1 + w + y))).length ≤ 200000 := by
    rw [List.length_append, hD2.length_eq]
    have h1 := len_dly (n := 1 + d + x) (f := 20447) (t := 20474) (b := true) (e := 0) (B := B2)
    have h2 := List.length_filter_le (brLt (1 + w + y)) (wkR z S2 (mds 20447 20474))
    rw [len_wkR] at h2
    omega
  generalize D1 ++ (wkR z S2 (mds 20447 20474)).filter (brLt (1 + w)) = A at *
  generalize D2 ++ (wkR z S2 (mds 20447 20474)).filter (brLt (1 + w + y)) = B at *
  clear hD1 hD2 s1 s2 hBl hml
  (repeat (first | (refine Cl.here ?_; simp only [go_sem, Nat.reduceAdd, Nat.reduceSub, Nat.reduceMul, Nat.reduceEqDiff, Nat.reduceLT, Nat.reduceLeDiff, Nat.reduceBEq, reduceIte, reduceCtorEq, Int.reduceToNat, Int.reduceLE, Int.reduceLT, Int.reduceBEq, Int.reduceBNe, bne_self_eq_false]) | simp only [go_sem, Nat.reduceAdd, Nat.reduceSub, Nat.reduceMul, Nat.reduceEqDiff, Nat.reduceLT, Nat.reduceLeDiff, Nat.reduceBEq, reduceIte, reduceCtorEq, Int.reduceToNat, Int.reduceLE, Int.reduceLT, Int.reduceBEq, Int.reduceBNe, bne_self_eq_false]))
  refine avcW_loop (fun env rows => ∃ i : Nat, i ≤ A.length ∧ env = [(10, .own 0 A.length 0 A.length), (12, .own 1 B.length 0 B.length), (14, .int .i64 i)] ∧ rows = [.live 40 3 (els A), .live 40 3 (els B)])
    (fun env _ => match slot env 14 with | .int _ j => (A.length - j).toNat | _ => 0) ?_ ?_
  · (refine Cl.tr [some 3, some 4] [] rfl rfl (by simp only [go_sem, Nat.reduceAdd, Nat.reduceSub, Nat.reduceMul, Nat.reduceEqDiff, Nat.reduceLT, Nat.reduceLeDiff, Nat.reduceBEq, reduceIte, reduceCtorEq, Int.reduceToNat, Int.reduceLE, Int.reduceLT, Int.reduceBEq, Int.reduceBNe] <;> rfl) ?_; simp only [go_sem, Nat.reduceAdd, Nat.reduceSub, Nat.reduceMul, Nat.reduceEqDiff, Nat.reduceLT, Nat.reduceLeDiff, Nat.reduceBEq, reduceIte, reduceCtorEq, Int.reduceToNat, Int.reduceLE, Int.reduceLT, Int.reduceBEq, Int.reduceBNe])
    exact Cl.here ⟨0, by omega, rfl, rfl⟩
  rintro env rows ⟨i, hi, rfl, rfl⟩
  have hw : IntKind.i64.wrap ((i : Int) + 1) = ((i + 1 : Nat) : Int) := by rw [wrap_i64 (by omega) (by omega)]; omega
  simp only [go_sem, Nat.reduceAdd, Nat.reduceSub, Nat.reduceMul, Nat.reduceEqDiff, Nat.reduceLT, Nat.reduceLeDiff, Nat.reduceBEq, reduceIte, reduceCtorEq, Int.reduceToNat, Int.reduceLE, Int.reduceLT, Int.reduceBEq, Int.reduceBNe, a3, a3r0, a3r1, a3r2, a3r3, a3r4, a3r5, a3r6, a3r7, a3r8, a3r9, a3r10, a3r11, a3r12, a3r13, a3r14, a3r15, a3r16, a3r17, a3r18, a3r19]
  (refine Cl.here ?_; simp only [go_sem, Nat.reduceAdd, Nat.reduceSub, Nat.reduceMul, Nat.reduceEqDiff, Nat.reduceLT, Nat.reduceLeDiff, Nat.reduceBEq, reduceIte, reduceCtorEq, Int.reduceToNat, Int.reduceLE, Int.reduceLT, Int.reduceBEq, Int.reduceBNe])
  refine condW_intro ?_ ?_ <;> intro hg2 <;> simp only [decide_eq_true_eq, decide_eq_false_iff_not, beq_iff_eq, beq_eq_false_iff_ne, bne_iff_ne, bne_eq_false_iff_eq, Bool.not_eq_true', Bool.not_eq_false', Int.not_lt, Int.not_le, ne_eq, Bool.and_eq_true, Bool.or_eq_true, Bool.or_eq_false_iff, Bool.and_eq_false_iff] at hg2 <;> simp only [go_sem, Nat.reduceAdd, Nat.reduceSub, Nat.reduceMul, Nat.reduceEqDiff, Nat.reduceLT, Nat.reduceLeDiff, Nat.reduceBEq, reduceIte, reduceCtorEq, Int.reduceToNat, Int.reduceLE, Int.reduceLT, Int.reduceBEq, Int.reduceBNe, a3, a3r0, a3r1, a3r2, a3r3, a3r4, a3r5, a3r6, a3r7, a3r8, a3r9, a3r10, a3r11, a3r12, a3r13, a3r14, a3r15, a3r16, a3r17, a3r18, a3r19]
  · have hlt : i < A.length := by omega
    repeat (refine Cl.here ?_; simp only [go_sem, Nat.reduceAdd, Nat.reduceSub, Nat.reduceMul, Nat.reduceEqDiff, Nat.reduceLT, Nat.reduceLeDiff, Nat.reduceBEq, reduceIte, reduceCtorEq, Int.reduceToNat, Int.reduceLE, Int.reduceLT, Int.reduceBEq, Int.reduceBNe])
    refine avcW_loop (fun env rows => ∃ j : Nat, j ≤ B.length ∧ env = [(10, .own 0 A.length 0 A.length), (12, .own 1 B.length 0 B.length), (14, .int .i64 i), (15, .bool (inB A[i] (B.take j))), (16, .int .i64 j)] ∧ rows = [.live 40 3 (els A), .live 40 3 (els B)])
      (fun env _ => match slot env 16 with | .int _ j => (B.length - j).toNat | _ => 0) ?_ ?_
    · exact Cl.here ⟨0, by omega, by simp [inB], rfl⟩
    rintro env rows ⟨j, hj, rfl, rfl⟩
    have hwj : IntKind.i64.wrap ((j : Int) + 1) = ((j + 1 : Nat) : Int) := by rw [wrap_i64 (by omega) (by omega)]; omega
    simp only [go_sem, Nat.reduceAdd, Nat.reduceSub, Nat.reduceMul, Nat.reduceEqDiff, Nat.reduceLT, Nat.reduceLeDiff, Nat.reduceBEq, reduceIte, reduceCtorEq, Int.reduceToNat, Int.reduceLE, Int.reduceLT, Int.reduceBEq, Int.reduceBNe, a3, a3r0, a3r1, a3r2, a3r3, a3r4, a3r5, a3r6, a3r7, a3r8, a3r9, a3r10, a3r11, a3r12, a3r13, a3r14, a3r15, a3r16, a3r17, a3r18, a3r19]
    (refine Cl.here ?_; simp only [go_sem, Nat.reduceAdd, Nat.reduceSub, Nat.reduceMul, Nat.reduceEqDiff, Nat.reduceLT, Nat.reduceLeDiff, Nat.reduceBEq, reduceIte, reduceCtorEq, Int.reduceToNat, Int.reduceLE, Int.reduceLT, Int.reduceBEq, Int.reduceBNe])
    refine condW_intro ?_ ?_ <;> intro hg3 <;> simp only [decide_eq_true_eq, decide_eq_false_iff_not, beq_iff_eq, beq_eq_false_iff_ne, bne_iff_ne, bne_eq_false_iff_eq, Bool.not_eq_true', Bool.not_eq_false', Int.not_lt, Int.not_le, ne_eq, Bool.and_eq_true, Bool.or_eq_true, Bool.or_eq_false_iff, Bool.and_eq_false_iff] at hg3 <;> simp only [go_sem, Nat.reduceAdd, Nat.reduceSub, Nat.reduceMul, Nat.reduceEqDiff, Nat.reduceLT, Nat.reduceLeDiff, Nat.reduceBEq, reduceIte, reduceCtorEq, Int.reduceToNat, Int.reduceLE, Int.reduceLT, Int.reduceBEq, Int.reduceBNe, a3, a3r0, a3r1, a3r2, a3r3, a3r4, a3r5, a3r6, a3r7, a3r8, a3r9, a3r10, a3r11, a3r12, a3r13, a3r14, a3r15, a3r16, a3r17, a3r18, a3r19]
    · have hlj : j < B.length := by omega
      have hT := inB_take (x := A[i]) hlj
      cases hf : inB A[i] (B.take j)
      · rw [hf, Bool.false_or] at hT
        (refine Cl.here ?_; simp only [go_sem, Nat.reduceAdd, Nat.reduceSub, Nat.reduceMul, Nat.reduceEqDiff, Nat.reduceLT, Nat.reduceLeDiff, Nat.reduceBEq, reduceIte, reduceCtorEq, Int.reduceToNat, Int.reduceLE, Int.reduceLT, Int.reduceBEq, Int.reduceBNe])
        refine ⟨by omega, by omega, by omega, by omega, ?_⟩
        try simp only [Int.toNat_natCast]
        rw [els_getD hlt, els_getD hlj]
        simp only [go_sem, Nat.reduceAdd, Nat.reduceSub, Nat.reduceMul, Nat.reduceEqDiff, Nat.reduceLT, Nat.reduceLeDiff, Nat.reduceBEq, reduceIte, reduceCtorEq, Int.reduceToNat, Int.reduceLE, Int.reduceLT, Int.reduceBEq, Int.reduceBNe, cel_br, eqBr, Bool.bne_false]
        rw [← hT]
        (repeat (first | (refine Cl.here ?_; simp only [go_sem, Nat.reduceAdd, Nat.reduceSub, Nat.reduceMul, Nat.reduceEqDiff, Nat.reduceLT, Nat.reduceLeDiff, Nat.reduceBEq, reduceIte, reduceCtorEq, Int.reduceToNat, Int.reduceLE, Int.reduceLT, Int.reduceBEq, Int.reduceBNe, hwj]) | simp only [go_sem, Nat.reduceAdd, Nat.reduceSub, Nat.reduceMul, Nat.reduceEqDiff, Nat.reduceLT, Nat.reduceLeDiff, Nat.reduceBEq, reduceIte, reduceCtorEq, Int.reduceToNat, Int.reduceLE, Int.reduceLT, Int.reduceBEq, Int.reduceBNe, hwj]))
        exact ⟨⟨j + 1, by omega, rfl⟩, by omega⟩
      · rw [hf, Bool.true_or] at hT
        (repeat (first | (refine Cl.here ?_; simp only [go_sem, Nat.reduceAdd, Nat.reduceSub, Nat.reduceMul, Nat.reduceEqDiff, Nat.reduceLT, Nat.reduceLeDiff, Nat.reduceBEq, reduceIte, reduceCtorEq, Int.reduceToNat, Int.reduceLE, Int.reduceLT, Int.reduceBEq, Int.reduceBNe, hwj]) | simp only [go_sem, Nat.reduceAdd, Nat.reduceSub, Nat.reduceMul, Nat.reduceEqDiff, Nat.reduceLT, Nat.reduceLeDiff, Nat.reduceBEq, reduceIte, reduceCtorEq, Int.reduceToNat, Int.reduceLE, Int.reduceLT, Int.reduceBEq, Int.reduceBNe, hwj]))
        exact ⟨⟨j + 1, by omega, by rw [hT]⟩, by omega⟩
    · obtain rfl : j = B.length := by omega
      rw [List.take_length, inB_mem (hsub _ (List.getElem_mem hlt))]
      (repeat (first | (refine Cl.here ?_; simp only [go_sem, Nat.reduceAdd, Nat.reduceSub, Nat.reduceMul, Nat.reduceEqDiff, Nat.reduceLT, Nat.reduceLeDiff, Nat.reduceBEq, reduceIte, reduceCtorEq, Int.reduceToNat, Int.reduceLE, Int.reduceLT, Int.reduceBEq, Int.reduceBNe, hw]) | simp only [go_sem, Nat.reduceAdd, Nat.reduceSub, Nat.reduceMul, Nat.reduceEqDiff, Nat.reduceLT, Nat.reduceLeDiff, Nat.reduceBEq, reduceIte, reduceCtorEq, Int.reduceToNat, Int.reduceLE, Int.reduceLT, Int.reduceBEq, Int.reduceBNe, hw]))
      exact ⟨⟨i + 1, by omega, rfl⟩, by omega⟩
  · have hle : ((A.length : Int) ≤ B.length) := by omega
    (repeat (first | (refine Cl.here ?_; simp only [go_sem, Nat.reduceAdd, Nat.reduceSub, Nat.reduceMul, Nat.reduceEqDiff, Nat.reduceLT, Nat.reduceLeDiff, Nat.reduceBEq, reduceIte, reduceCtorEq, Int.reduceToNat, Int.reduceLE, Int.reduceLT, Int.reduceBEq, Int.reduceBNe, hle]) | simp only [go_sem, Nat.reduceAdd, Nat.reduceSub, Nat.reduceMul, Nat.reduceEqDiff, Nat.reduceLT, Nat.reduceLeDiff, Nat.reduceBEq, reduceIte, reduceCtorEq, Int.reduceToNat, Int.reduceLE, Int.reduceLT, Int.reduceBEq, Int.reduceBNe, hle]))
    refine callC_det saneR_ok rfl rfl ?_
    (repeat (first | (refine Cl.here ?_; simp only [go_sem, Nat.reduceAdd, Nat.reduceSub, Nat.reduceMul, Nat.reduceEqDiff, Nat.reduceLT, Nat.reduceLeDiff, Nat.reduceBEq, reduceIte, reduceCtorEq, Int.reduceToNat, Int.reduceLE, Int.reduceLT, Int.reduceBEq, Int.reduceBNe]) | simp only [go_sem, Nat.reduceAdd, Nat.reduceSub, Nat.reduceMul, Nat.reduceEqDiff, Nat.reduceLT, Nat.reduceLeDiff, Nat.reduceBEq, reduceIte, reduceCtorEq, Int.reduceToNat, Int.reduceLE, Int.reduceLT, Int.reduceBEq, Int.reduceBNe]))
    exact Cl.fin rfl rfl

end Go.Proofs.YtaloobgfgehhdaaGreat
