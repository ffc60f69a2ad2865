/- The union of the reference: the walk. -/
import Derived.Test.YtodbafiepdcfbaaA5RUni
set_option linter.unusedSimpArgs false
set_option linter.unusedVariables false
set_option linter.unusedSectionVars false
namespace Go.Proofs.Ytodbafiepdcfbaa
open Go Go.Abs
set_option linter.unusedSimpArgs false
set_option linter.unusedVariables false

theorem rUnion_ok (a b : List Ev) (ha : a.length ≤ 1000000) (hb : b.length ≤ 1000000) : AFn Try.prog 70 [.pure 7 (els a), .pure 7 (els b)] []
    (fun v rs => v = .own 0 (uni (a ++ b)).length 0 (uni (a ++ b)).length ∧ rs = [.live 64 7 (els (uni (a ++ b)))]) := by
  refine afnW Try.func70 a70_ok (by simp [a70]) ?_
  simp only [go_sem, Nat.reduceAdd, Nat.reduceSub, Nat.reduceMul, Nat.reduceEqDiff, Nat.reduceLT, Nat.reduceLeDiff, Nat.reduceBEq, reduceIte, reduceCtorEq, Int.reduceToNat, Int.reduceLE, Int.reduceLT, Int.reduceBEq, Int.reduceBNe, a70, a70r0, a70r1, a70r2, a70r3, a70r4, a70r5, a70r6, a70r7, a70r8, a70r9, a70r10, a70r11, a70r12, a70r13, a70r14, a70r15, a70r16]
  repeat (refine Cl.here ?_; simp only [go_sem, Nat.reduceAdd, Nat.reduceSub, Nat.reduceMul, Nat.reduceEqDiff, Nat.reduceLT, Nat.reduceLeDiff, Nat.reduceBEq, reduceIte, reduceCtorEq, Int.reduceToNat, Int.reduceLE, Int.reduceLT, Int.reduceBEq, Int.reduceBNe])
  refine avcW_loop (fun env rows => ∃ i : Nat, i ≤ (a ++ b).length ∧ env = [(0, .pure 7 (els a)), (1, .pure 7 (els b)), (5, .own 0 (uni ((a ++ b).take i)).length 0 (uni ((a ++ b).take i)).length), (6, .int .i64 i)] ∧ rows = [.live 64 7 (els (uni ((a ++ b).take i)))])
    (fun env _ => match slot env 6 with | .int _ j => ((a ++ b).length - j).toNat | _ => 0) ?_ ?_
  · (refine Cl.ghost 5  64  7 rfl (Cl.norm [ 0, 1, 5, 6] ?_); simp only [go_sem, Nat.reduceAdd, Nat.reduceSub, Nat.reduceMul, Nat.reduceEqDiff, Nat.reduceLT, Nat.reduceLeDiff, Nat.reduceBEq, reduceIte, reduceCtorEq, Int.reduceToNat, Int.reduceLE, Int.reduceLT, Int.reduceBEq, Int.reduceBNe])
    exact Cl.here ⟨0, by omega, rfl, rfl⟩
  rintro env rows ⟨i, hi, rfl, rfl⟩
  have hlen : ((a ++ b).length : Int) = a.length + b.length := by rw [List.length_append]; omega
  have hw1 : IntKind.i64.wrap ((i : Int) + 1) = ((i + 1 : Nat) : Int) := by rw [wrap_i64 (by omega) (by omega)]; omega
  have hwn : IntKind.i64.wrap ((a.length : Int) + b.length) = a.length + b.length := wrap_i64 (by omega) (by omega)
  have hul : (uni ((a ++ b).take i)).length ≤ i := Nat.le_trans (uni_le _) (by rw [List.length_take]; omega)
  simp only [go_sem, Nat.reduceAdd, Nat.reduceSub, Nat.reduceMul, Nat.reduceEqDiff, Nat.reduceLT, Nat.reduceLeDiff, Nat.reduceBEq, reduceIte, reduceCtorEq, Int.reduceToNat, Int.reduceLE, Int.reduceLT, Int.reduceBEq, Int.reduceBNe, a70, a70r0, a70r1, a70r2, a70r3, a70r4, a70r5, a70r6, a70r7, a70r8, a70r9, a70r10, a70r11, a70r12, a70r13, a70r14, a70r15, a70r16, hwn]
  repeat (refine Cl.here ?_; simp only [go_sem, Nat.reduceAdd, Nat.reduceSub, Nat.reduceMul, Nat.reduceEqDiff, Nat.reduceLT, Nat.reduceLeDiff, Nat.reduceBEq, reduceIte, reduceCtorEq, Int.reduceToNat, Int.reduceLE, Int.reduceLT, Int.reduceBEq, Int.reduceBNe])
  refine condW_intro ?_ ?_ <;> intro hg <;> simp only [decide_eq_true_eq, decide_eq_false_iff_not, beq_iff_eq, beq_eq_false_iff_ne, bne_iff_ne, bne_eq_false_iff_eq, Bool.not_eq_true', Bool.not_eq_false', Int.not_lt, Int.not_le, ne_eq, Bool.and_eq_true, Bool.or_eq_true, Bool.or_eq_false_iff, Bool.and_eq_false_iff] at hg <;> simp only [go_sem, Nat.reduceAdd, Nat.reduceSub, Nat.reduceMul, Nat.reduceEqDiff, Nat.reduceLT, Nat.reduceLeDiff, Nat.reduceBEq, reduceIte, reduceCtorEq, Int.reduceToNat, Int.reduceLE, Int.reduceLT, Int.reduceBEq, Int.reduceBNe, a70, a70r0, a70r1, a70r2, a70r3, a70r4, a70r5, a70r6, a70r7, a70r8, a70r9, a70r10, a70r11, a70r12, a70r13, a70r14, a70r15, a70r16]
  rotate_left
  · repeat (refine Cl.here ?_; simp only [go_sem, Nat.reduceAdd, Nat.reduceSub, Nat.reduceMul, Nat.reduceEqDiff, Nat.reduceLT, Nat.reduceLeDiff, Nat.reduceBEq, reduceIte, reduceCtorEq, Int.reduceToNat, Int.reduceLE, Int.reduceLT, Int.reduceBEq, Int.reduceBNe])
    have : (a ++ b).take i = a ++ b := List.take_of_length_le (by omega)
    rw [this]
    exact Cl.here ⟨rfl, rfl⟩
  have hlt : i < (a ++ b).length := by omega
  have hnx : uni ((a ++ b).take (i + 1)) = insE (a ++ b)[i] (uni ((a ++ b).take i)) := by
    rw [List.take_succ_eq_append_getElem hlt, uni_snoc]
  have hO := strict_uni ((a ++ b).take i)
  generalize uni ((a ++ b).take i) = O at *
  generalize he : (a ++ b)[i] = e at *
  (refine Cl.here ?_; simp only [go_sem, Nat.reduceAdd, Nat.reduceSub, Nat.reduceMul, Nat.reduceEqDiff, Nat.reduceLT, Nat.reduceLeDiff, Nat.reduceBEq, reduceIte, reduceCtorEq, Int.reduceToNat, Int.reduceLE, Int.reduceLT, Int.reduceBEq, Int.reduceBNe])
  refine Cl.here (avcW_seq_cut (fun env rows => norm [0, 1, 5, 6, 7] env = [(0, .pure 7 (els a)), (1, .pure 7 (els b)), (5, .own 0 O.length 0 O.length), (6, .int .i64 i), (7, .ref 1 1 0 0)] ∧ rows = [.live 64 7 (els O), .live 64 7 [Cel.c e]]) ?_ ?_)
  · simp only [go_sem, Nat.reduceAdd, Nat.reduceSub, Nat.reduceMul, Nat.reduceEqDiff, Nat.reduceLT, Nat.reduceLeDiff, Nat.reduceBEq, reduceIte, reduceCtorEq, Int.reduceToNat, Int.reduceLE, Int.reduceLT, Int.reduceBEq, Int.reduceBNe]
    by_cases hia : i < a.length
    · have hd : decide ((i : Int) < a.length) = true := decide_eq_true (by omega)
      have h0 : (0 : Int) ≤ i := by omega
      have h1 : (i : Int) < a.length := by omega
      have g1 : (els a).getD i [] = Cel.c e := by rw [els_getD hia, ← he, List.getElem_append_left hia]
      simp only [go_sem, Nat.reduceAdd, Nat.reduceSub, Nat.reduceMul, Nat.reduceEqDiff, Nat.reduceLT, Nat.reduceLeDiff, Nat.reduceBEq, reduceIte, reduceCtorEq, Int.reduceToNat, Int.reduceLE, Int.reduceLT, Int.reduceBEq, Int.reduceBNe, hd]
      repeat (refine Cl.here ?_; simp only [go_sem, Nat.reduceAdd, Nat.reduceSub, Nat.reduceMul, Nat.reduceEqDiff, Nat.reduceLT, Nat.reduceLeDiff, Nat.reduceBEq, reduceIte, reduceCtorEq, Int.reduceToNat, Int.reduceLE, Int.reduceLT, Int.reduceBEq, Int.reduceBNe])
      simp only [go_sem, Nat.reduceAdd, Nat.reduceSub, Nat.reduceMul, Nat.reduceEqDiff, Nat.reduceLT, Nat.reduceLeDiff, Nat.reduceBEq, reduceIte, reduceCtorEq, Int.reduceToNat, Int.reduceLE, Int.reduceLT, Int.reduceBEq, Int.reduceBNe, h0, h1, g1]
      done
    · have hd : decide ((i : Int) < a.length) = false := decide_eq_false (by omega)
      have hib : i - a.length < b.length := by omega
      have h0 : (0 : Int) ≤ ((i - a.length : Nat) : Int) := by omega
      have h1 : ((i - a.length : Nat) : Int) < b.length := by omega
      have hws : IntKind.i64.wrap ((i : Int) - a.length) = ((i - a.length : Nat) : Int) := by rw [wrap_i64 (by omega) (by omega)]; omega
      have g1 : (els b).getD (i - a.length) [] = Cel.c e := by rw [els_getD hib, ← he, List.getElem_append_right (by omega)]
      simp only [go_sem, Nat.reduceAdd, Nat.reduceSub, Nat.reduceMul, Nat.reduceEqDiff, Nat.reduceLT, Nat.reduceLeDiff, Nat.reduceBEq, reduceIte, reduceCtorEq, Int.reduceToNat, Int.reduceLE, Int.reduceLT, Int.reduceBEq, Int.reduceBNe, hd]
      repeat (refine Cl.here ?_; simp only [go_sem, Nat.reduceAdd, Nat.reduceSub, Nat.reduceMul, Nat.reduceEqDiff, Nat.reduceLT, Nat.reduceLeDiff, Nat.reduceBEq, reduceIte, reduceCtorEq, Int.reduceToNat, Int.reduceLE, Int.reduceLT, Int.reduceBEq, Int.reduceBNe])
      simp only [go_sem, Nat.reduceAdd, Nat.reduceSub, Nat.reduceMul, Nat.reduceEqDiff, Nat.reduceLT, Nat.reduceLeDiff, Nat.reduceBEq, reduceIte, reduceCtorEq, Int.reduceToNat, Int.reduceLE, Int.reduceLT, Int.reduceBEq, Int.reduceBNe, hws, h0, h1, g1]
      done
  rintro env rows ⟨hn, rfl⟩
  refine Cl.norm [0, 1, 5, 6, 7] ?_
  rw [hn]
  clear hn
  repeat (refine Cl.here ?_; simp only [go_sem, Nat.reduceAdd, Nat.reduceSub, Nat.reduceMul, Nat.reduceEqDiff, Nat.reduceLT, Nat.reduceLeDiff, Nat.reduceBEq, reduceIte, reduceCtorEq, Int.reduceToNat, Int.reduceLE, Int.reduceLT, Int.reduceBEq, Int.reduceBNe])
  refine avcW_loop (fun env rows => ∃ k : Nat, k ≤ O.length ∧ (∀ q (h : q < O.length), k ≤ q → eLt e O[q]) ∧ env = [(0, .pure 7 (els a)), (1, .pure 7 (els b)), (5, .own 0 O.length 0 O.length), (6, .int .i64 i), (7, .ref 1 1 0 0), (8, .int .i64 k)] ∧ rows = [.live 64 7 (els O), .live 64 7 [Cel.c e]])
    (fun env _ => match slot env 8 with | .int _ j => j.toNat | _ => 0) ?_ ?_
  · exact Cl.here ⟨O.length, by omega, fun q h h2 => by omega, rfl, rfl⟩
  rintro env rows ⟨k, hk, hup, rfl, rfl⟩
  have hwk : IntKind.i64.wrap ((k : Int) + 1) = ((k + 1 : Nat) : Int) := by rw [wrap_i64 (by omega) (by omega)]; omega
  rcases Nat.eq_zero_or_pos k with hk0 | hk0
  · have hd : decide ((0 : Int) < k) = false := decide_eq_false (by omega)
    simp only [go_sem, Nat.reduceAdd, Nat.reduceSub, Nat.reduceMul, Nat.reduceEqDiff, Nat.reduceLT, Nat.reduceLeDiff, Nat.reduceBEq, reduceIte, reduceCtorEq, Int.reduceToNat, Int.reduceLE, Int.reduceLT, Int.reduceBEq, Int.reduceBNe, a70, a70r0, a70r1, a70r2, a70r3, a70r4, a70r5, a70r6, a70r7, a70r8, a70r9, a70r10, a70r11, a70r12, a70r13, a70r14, a70r15, a70r16, hd]
    repeat (refine Cl.here ?_; simp only [go_sem, Nat.reduceAdd, Nat.reduceSub, Nat.reduceMul, Nat.reduceEqDiff, Nat.reduceLT, Nat.reduceLeDiff, Nat.reduceBEq, reduceIte, reduceCtorEq, Int.reduceToNat, Int.reduceLE, Int.reduceLT, Int.reduceBEq, Int.reduceBNe])
    simp only [go_sem, Nat.reduceAdd, Nat.reduceSub, Nat.reduceMul, Nat.reduceEqDiff, Nat.reduceLT, Nat.reduceLeDiff, Nat.reduceBEq, reduceIte, reduceCtorEq, Int.reduceToNat, Int.reduceLE, Int.reduceLT, Int.reduceBEq, Int.reduceBNe, hd]
    repeat (refine Cl.here ?_; simp only [go_sem, Nat.reduceAdd, Nat.reduceSub, Nat.reduceMul, Nat.reduceEqDiff, Nat.reduceLT, Nat.reduceLeDiff, Nat.reduceBEq, reduceIte, reduceCtorEq, Int.reduceToNat, Int.reduceLE, Int.reduceLT, Int.reduceBEq, Int.reduceBNe])
    have hl1 : (O ++ [(⟨0, 0, 0, 0, 0, 0, 0⟩ : Ev)]).length = O.length + 1 := by simp
    have hk2 : k + (O.length + 1 - k) = O.length + 1 := by omega
    have hk3 : k + 1 + (O.length + 1 - (k + 1)) = O.length + 1 := by omega
    refine ⟨by omega, ?_⟩
    rw [ev_snoc]
    repeat (refine Cl.here ?_; simp only [go_sem, Nat.reduceAdd, Nat.reduceSub, Nat.reduceMul, Nat.reduceEqDiff, Nat.reduceLT, Nat.reduceLeDiff, Nat.reduceBEq, reduceIte, reduceCtorEq, Int.reduceToNat, Int.reduceLE, Int.reduceLT, Int.reduceBEq, Int.reduceBNe])
    simp only [go_sem, Nat.reduceAdd, Nat.reduceSub, Nat.reduceMul, Nat.reduceEqDiff, Nat.reduceLT, Nat.reduceLeDiff, Nat.reduceBEq, reduceIte, reduceCtorEq, Int.reduceToNat, Int.reduceLE, Int.reduceLT, Int.reduceBEq, Int.reduceBNe, hwk, hl1, hk2]
    repeat (refine And.intro (by first | rfl | omega) ?_)
    have hpart : List.take (min (List.take (O.length + 1 - k) (List.drop k (O ++ [(⟨0, 0, 0, 0, 0, 0, 0⟩ : Ev)]))).length (O.length + 1 - (k + 1))) (List.take (O.length + 1 - k) (List.drop k (O ++ [(⟨0, 0, 0, 0, 0, 0, 0⟩ : Ev)]))) = O.drop k := overL_part hk (by simp only [List.length_take, List.length_drop, hl1]; omega) (by simp only [List.length_take, List.length_drop, hl1]; omega)
    rw [hpart]
    have hol := overL_length (z := (⟨0, 0, 0, 0, 0, 0, 0⟩ : Ev)) hk
    have hos := overL_set (z := (⟨0, 0, 0, 0, 0, 0, 0⟩ : Ev)) (x := e) hk
    generalize overL (O ++ [(⟨0, 0, 0, 0, 0, 0, 0⟩ : Ev)]) (k + 1) (O.drop k) = ws at hol hos ⊢
    have hkw : k < ws.length := by omega
    have hgw : (els ws).getD k [] = Cel.c ws[k] := els_getD hkw
    have hdr : ∀ x : Ev, List.drop 7 (Cel.c x) = [] := fun _ => rfl
    have hwl : O.length + 1 = (O.take k ++ e :: O.drop k).length := by rw [← hos, List.length_set, hol]
    have hins : insE e O = O.take k ++ e :: O.drop k := ins_at hO hk hup (fun h => by omega)
    (refine Cl.tr [some 0, some 1] [] rfl rfl (by simp only [go_sem, Nat.reduceAdd, Nat.reduceSub, Nat.reduceMul, Nat.reduceEqDiff, Nat.reduceLT, Nat.reduceLeDiff, Nat.reduceBEq, reduceIte, reduceCtorEq, Int.reduceToNat, Int.reduceLE, Int.reduceLT, Int.reduceBEq, Int.reduceBNe] <;> rfl) ?_; simp only [go_sem, Nat.reduceAdd, Nat.reduceSub, Nat.reduceMul, Nat.reduceEqDiff, Nat.reduceLT, Nat.reduceLeDiff, Nat.reduceBEq, reduceIte, reduceCtorEq, Int.reduceToNat, Int.reduceLE, Int.reduceLT, Int.reduceBEq, Int.reduceBNe])
    repeat (refine Cl.here ?_; simp only [go_sem, Nat.reduceAdd, Nat.reduceSub, Nat.reduceMul, Nat.reduceEqDiff, Nat.reduceLT, Nat.reduceLeDiff, Nat.reduceBEq, reduceIte, reduceCtorEq, Int.reduceToNat, Int.reduceLE, Int.reduceLT, Int.reduceBEq, Int.reduceBNe])
    have z0 : (0 : Int) ≤ ((k : Nat) : Int) := by omega
    have z1 : ((k : Nat) : Int) < ((O.length + 1 : Nat) : Int) := by omega
    simp only [go_sem, Nat.reduceAdd, Nat.reduceSub, Nat.reduceMul, Nat.reduceEqDiff, Nat.reduceLT, Nat.reduceLeDiff, Nat.reduceBEq, reduceIte, reduceCtorEq, Int.reduceToNat, Int.reduceLE, Int.reduceLT, Int.reduceBEq, Int.reduceBNe, hgw, z0, z1, hol]
    rw [hdr, List.append_nil, els_set, hos, hwl, ← hins, ← hnx]
    (refine Cl.tr [some 0] [] rfl rfl (by simp only [go_sem, Nat.reduceAdd, Nat.reduceSub, Nat.reduceMul, Nat.reduceEqDiff, Nat.reduceLT, Nat.reduceLeDiff, Nat.reduceBEq, reduceIte, reduceCtorEq, Int.reduceToNat, Int.reduceLE, Int.reduceLT, Int.reduceBEq, Int.reduceBNe] <;> rfl) ?_; simp only [go_sem, Nat.reduceAdd, Nat.reduceSub, Nat.reduceMul, Nat.reduceEqDiff, Nat.reduceLT, Nat.reduceLeDiff, Nat.reduceBEq, reduceIte, reduceCtorEq, Int.reduceToNat, Int.reduceLE, Int.reduceLT, Int.reduceBEq, Int.reduceBNe])
    repeat (refine Cl.here ?_; simp only [go_sem, Nat.reduceAdd, Nat.reduceSub, Nat.reduceMul, Nat.reduceEqDiff, Nat.reduceLT, Nat.reduceLeDiff, Nat.reduceBEq, reduceIte, reduceCtorEq, Int.reduceToNat, Int.reduceLE, Int.reduceLT, Int.reduceBEq, Int.reduceBNe])
    simp only [go_sem, Nat.reduceAdd, Nat.reduceSub, Nat.reduceMul, Nat.reduceEqDiff, Nat.reduceLT, Nat.reduceLeDiff, Nat.reduceBEq, reduceIte, reduceCtorEq, Int.reduceToNat, Int.reduceLE, Int.reduceLT, Int.reduceBEq, Int.reduceBNe, hw1]
    exact ⟨⟨i + 1, by omega, rfl, rfl⟩, by omega⟩
  · obtain ⟨k, rfl⟩ : ∃ j, k = j + 1 := ⟨k - 1, by omega⟩
    have hd : decide ((0 : Int) < ((k + 1 : Nat) : Int)) = true := decide_eq_true (by omega)
    have hws : IntKind.i64.wrap (((k + 1 : Nat) : Int) - 1) = k := by rw [wrap_i64 (by omega) (by omega)]; omega
    have h0 : (0 : Int) ≤ k := by omega
    have h1 : (k : Int) < O.length := by omega
    have g1 : (els O).getD k [] = Cel.c (O[k]'(by omega)) := els_getD (by omega)
    simp only [go_sem, Nat.reduceAdd, Nat.reduceSub, Nat.reduceMul, Nat.reduceEqDiff, Nat.reduceLT, Nat.reduceLeDiff, Nat.reduceBEq, reduceIte, reduceCtorEq, Int.reduceToNat, Int.reduceLE, Int.reduceLT, Int.reduceBEq, Int.reduceBNe, a70, a70r0, a70r1, a70r2, a70r3, a70r4, a70r5, a70r6, a70r7, a70r8, a70r9, a70r10, a70r11, a70r12, a70r13, a70r14, a70r15, a70r16, hd, hws, h0, h1, g1]
    refine callD_det (rCompare_ok _ _) (by simp only [go_sem, Nat.reduceAdd, Nat.reduceSub, Nat.reduceMul, Nat.reduceEqDiff, Nat.reduceLT, Nat.reduceLeDiff, Nat.reduceBEq, reduceIte, reduceCtorEq, Int.reduceToNat, Int.reduceLE, Int.reduceLT, Int.reduceBEq, Int.reduceBNe]) rfl ?_
    simp only [go_sem, Nat.reduceAdd, Nat.reduceSub, Nat.reduceMul, Nat.reduceEqDiff, Nat.reduceLT, Nat.reduceLeDiff, Nat.reduceBEq, reduceIte, reduceCtorEq, Int.reduceToNat, Int.reduceLE, Int.reduceLT, Int.reduceBEq, Int.reduceBNe]
    by_cases hc : 0 < cmpE (O[k]'(by omega)) e
    · have hdc : decide (0 < cmpE (O[k]'(by omega)) e) = true := decide_eq_true hc
      simp only [go_sem, Nat.reduceAdd, Nat.reduceSub, Nat.reduceMul, Nat.reduceEqDiff, Nat.reduceLT, Nat.reduceLeDiff, Nat.reduceBEq, reduceIte, reduceCtorEq, Int.reduceToNat, Int.reduceLE, Int.reduceLT, Int.reduceBEq, Int.reduceBNe, hdc]
      repeat (refine Cl.here ?_; simp only [go_sem, Nat.reduceAdd, Nat.reduceSub, Nat.reduceMul, Nat.reduceEqDiff, Nat.reduceLT, Nat.reduceLeDiff, Nat.reduceBEq, reduceIte, reduceCtorEq, Int.reduceToNat, Int.reduceLE, Int.reduceLT, Int.reduceBEq, Int.reduceBNe])
      simp only [go_sem, Nat.reduceAdd, Nat.reduceSub, Nat.reduceMul, Nat.reduceEqDiff, Nat.reduceLT, Nat.reduceLeDiff, Nat.reduceBEq, reduceIte, reduceCtorEq, Int.reduceToNat, Int.reduceLE, Int.reduceLT, Int.reduceBEq, Int.reduceBNe, hws]
      exact ⟨⟨k, by omega, fun q h hq => by
        by_cases hqk : q = k
        · subst hqk; exact cmpE_pos.1 hc
        · exact hup q h (by omega), rfl⟩, by omega⟩
    · have hdc : decide (0 < cmpE (O[k]'(by omega)) e) = false := decide_eq_false hc
      simp only [go_sem, Nat.reduceAdd, Nat.reduceSub, Nat.reduceMul, Nat.reduceEqDiff, Nat.reduceLT, Nat.reduceLeDiff, Nat.reduceBEq, reduceIte, reduceCtorEq, Int.reduceToNat, Int.reduceLE, Int.reduceLT, Int.reduceBEq, Int.reduceBNe, hdc]
      repeat (refine Cl.here ?_; simp only [go_sem, Nat.reduceAdd, Nat.reduceSub, Nat.reduceMul, Nat.reduceEqDiff, Nat.reduceLT, Nat.reduceLeDiff, Nat.reduceBEq, reduceIte, reduceCtorEq, Int.reduceToNat, Int.reduceLE, Int.reduceLT, Int.reduceBEq, Int.reduceBNe])
      simp only [go_sem, Nat.reduceAdd, Nat.reduceSub, Nat.reduceMul, Nat.reduceEqDiff, Nat.reduceLT, Nat.reduceLeDiff, Nat.reduceBEq, reduceIte, reduceCtorEq, Int.reduceToNat, Int.reduceLE, Int.reduceLT, Int.reduceBEq, Int.reduceBNe, hd, hws, h0, h1, g1, fits_ev, eqc_ev]
      by_cases heq : O[k]'(by omega) = e
      · have hde : decide (O[k]'(by omega) = e) = true := decide_eq_true heq
        simp only [go_sem, Nat.reduceAdd, Nat.reduceSub, Nat.reduceMul, Nat.reduceEqDiff, Nat.reduceLT, Nat.reduceLeDiff, Nat.reduceBEq, reduceIte, reduceCtorEq, Int.reduceToNat, Int.reduceLE, Int.reduceLT, Int.reduceBEq, Int.reduceBNe, hde]
        have hin := ins_in hO (heq ▸ List.getElem_mem (by omega))
        (refine Cl.tr [some 0] [] rfl rfl (by simp only [go_sem, Nat.reduceAdd, Nat.reduceSub, Nat.reduceMul, Nat.reduceEqDiff, Nat.reduceLT, Nat.reduceLeDiff, Nat.reduceBEq, reduceIte, reduceCtorEq, Int.reduceToNat, Int.reduceLE, Int.reduceLT, Int.reduceBEq, Int.reduceBNe] <;> rfl) ?_; simp only [go_sem, Nat.reduceAdd, Nat.reduceSub, Nat.reduceMul, Nat.reduceEqDiff, Nat.reduceLT, Nat.reduceLeDiff, Nat.reduceBEq, reduceIte, reduceCtorEq, Int.reduceToNat, Int.reduceLE, Int.reduceLT, Int.reduceBEq, Int.reduceBNe])
        repeat (refine Cl.here ?_; simp only [go_sem, Nat.reduceAdd, Nat.reduceSub, Nat.reduceMul, Nat.reduceEqDiff, Nat.reduceLT, Nat.reduceLeDiff, Nat.reduceBEq, reduceIte, reduceCtorEq, Int.reduceToNat, Int.reduceLE, Int.reduceLT, Int.reduceBEq, Int.reduceBNe])
        simp only [go_sem, Nat.reduceAdd, Nat.reduceSub, Nat.reduceMul, Nat.reduceEqDiff, Nat.reduceLT, Nat.reduceLeDiff, Nat.reduceBEq, reduceIte, reduceCtorEq, Int.reduceToNat, Int.reduceLE, Int.reduceLT, Int.reduceBEq, Int.reduceBNe, hw1]
        exact ⟨⟨i + 1, by omega, by rw [hnx, hin], by rw [hnx, hin]⟩, by omega⟩
      · have hde : decide (O[k]'(by omega) = e) = false := decide_eq_false heq
        have hlt2 : eLt (O[k]'(by omega)) e := by
          apply Classical.byContradiction
          intro h2
          exact heq (eLt_total h2 fun h3 => hc (cmpE_pos.2 h3))
        simp only [go_sem, Nat.reduceAdd, Nat.reduceSub, Nat.reduceMul, Nat.reduceEqDiff, Nat.reduceLT, Nat.reduceLeDiff, Nat.reduceBEq, reduceIte, reduceCtorEq, Int.reduceToNat, Int.reduceLE, Int.reduceLT, Int.reduceBEq, Int.reduceBNe, hde]
        repeat (refine Cl.here ?_; simp only [go_sem, Nat.reduceAdd, Nat.reduceSub, Nat.reduceMul, Nat.reduceEqDiff, Nat.reduceLT, Nat.reduceLeDiff, Nat.reduceBEq, reduceIte, reduceCtorEq, Int.reduceToNat, Int.reduceLE, Int.reduceLT, Int.reduceBEq, Int.reduceBNe])
        have hl1 : (O ++ [(⟨0, 0, 0, 0, 0, 0, 0⟩ : Ev)]).length = O.length + 1 := by simp
        have hk2 : (k + 1) + (O.length + 1 - (k + 1)) = O.length + 1 := by omega
        have hk3 : (k + 1) + 1 + (O.length + 1 - ((k + 1) + 1)) = O.length + 1 := by omega
        refine ⟨by omega, ?_⟩
        rw [ev_snoc]
        repeat (refine Cl.here ?_; simp only [go_sem, Nat.reduceAdd, Nat.reduceSub, Nat.reduceMul, Nat.reduceEqDiff, Nat.reduceLT, Nat.reduceLeDiff, Nat.reduceBEq, reduceIte, reduceCtorEq, Int.reduceToNat, Int.reduceLE, Int.reduceLT, Int.reduceBEq, Int.reduceBNe])
        simp only [go_sem, Nat.reduceAdd, Nat.reduceSub, Nat.reduceMul, Nat.reduceEqDiff, Nat.reduceLT, Nat.reduceLeDiff, Nat.reduceBEq, reduceIte, reduceCtorEq, Int.reduceToNat, Int.reduceLE, Int.reduceLT, Int.reduceBEq, Int.reduceBNe, hwk, hl1, hk2]
        repeat (refine And.intro (by first | rfl | omega) ?_)
        have hpart : List.take (min (List.take (O.length + 1 - (k + 1)) (List.drop (k + 1) (O ++ [(⟨0, 0, 0, 0, 0, 0, 0⟩ : Ev)]))).length (O.length + 1 - ((k + 1) + 1))) (List.take (O.length + 1 - (k + 1)) (List.drop (k + 1) (O ++ [(⟨0, 0, 0, 0, 0, 0, 0⟩ : Ev)]))) = O.drop (k + 1) := overL_part hk (by simp only [List.length_take, List.length_drop, hl1]; omega) (by simp only [List.length_take, List.length_drop, hl1]; omega)
        rw [hpart]
        have hol := overL_length (z := (⟨0, 0, 0, 0, 0, 0, 0⟩ : Ev)) hk
        have hos := overL_set (z := (⟨0, 0, 0, 0, 0, 0, 0⟩ : Ev)) (x := e) hk
        generalize overL (O ++ [(⟨0, 0, 0, 0, 0, 0, 0⟩ : Ev)]) ((k + 1) + 1) (O.drop (k + 1)) = ws at hol hos ⊢
        have hkw : (k + 1) < ws.length := by omega
        have hgw : (els ws).getD (k + 1) [] = Cel.c ws[(k + 1)] := els_getD hkw
        have hdr : ∀ x : Ev, List.drop 7 (Cel.c x) = [] := fun _ => rfl
        have hwl : O.length + 1 = (O.take (k + 1) ++ e :: O.drop (k + 1)).length := by rw [← hos, List.length_set, hol]
        have hins : insE e O = O.take (k + 1) ++ e :: O.drop (k + 1) := ins_at hO hk hup (fun h => hlt2)
        (refine Cl.tr [some 0, some 1] [] rfl rfl (by simp only [go_sem, Nat.reduceAdd, Nat.reduceSub, Nat.reduceMul, Nat.reduceEqDiff, Nat.reduceLT, Nat.reduceLeDiff, Nat.reduceBEq, reduceIte, reduceCtorEq, Int.reduceToNat, Int.reduceLE, Int.reduceLT, Int.reduceBEq, Int.reduceBNe] <;> rfl) ?_; simp only [go_sem, Nat.reduceAdd, Nat.reduceSub, Nat.reduceMul, Nat.reduceEqDiff, Nat.reduceLT, Nat.reduceLeDiff, Nat.reduceBEq, reduceIte, reduceCtorEq, Int.reduceToNat, Int.reduceLE, Int.reduceLT, Int.reduceBEq, Int.reduceBNe])
        repeat (refine Cl.here ?_; simp only [go_sem, Nat.reduceAdd, Nat.reduceSub, Nat.reduceMul, Nat.reduceEqDiff, Nat.reduceLT, Nat.reduceLeDiff, Nat.reduceBEq, reduceIte, reduceCtorEq, Int.reduceToNat, Int.reduceLE, Int.reduceLT, Int.reduceBEq, Int.reduceBNe])
        have z0 : (0 : Int) ≤ (((k + 1) : Nat) : Int) := by omega
        have z1 : (((k + 1) : Nat) : Int) < ((O.length + 1 : Nat) : Int) := by omega
        simp only [go_sem, Nat.reduceAdd, Nat.reduceSub, Nat.reduceMul, Nat.reduceEqDiff, Nat.reduceLT, Nat.reduceLeDiff, Nat.reduceBEq, reduceIte, reduceCtorEq, Int.reduceToNat, Int.reduceLE, Int.reduceLT, Int.reduceBEq, Int.reduceBNe, hgw, z0, z1, hol]
        rw [hdr, List.append_nil, els_set, hos, hwl, ← hins, ← hnx]
        (refine Cl.tr [some 0] [] rfl rfl (by simp only [go_sem, Nat.reduceAdd, Nat.reduceSub, Nat.reduceMul, Nat.reduceEqDiff, Nat.reduceLT, Nat.reduceLeDiff, Nat.reduceBEq, reduceIte, reduceCtorEq, Int.reduceToNat, Int.reduceLE, Int.reduceLT, Int.reduceBEq, Int.reduceBNe] <;> rfl) ?_; simp only [go_sem, Nat.reduceAdd, Nat.reduceSub, Nat.reduceMul, Nat.reduceEqDiff, Nat.reduceLT, Nat.reduceLeDiff, Nat.reduceBEq, reduceIte, reduceCtorEq, Int.reduceToNat, Int.reduceLE, Int.reduceLT, Int.reduceBEq, Int.reduceBNe])
        repeat (refine Cl.here ?_; simp only [go_sem, Nat.reduceAdd, Nat.reduceSub, Nat.reduceMul, Nat.reduceEqDiff, Nat.reduceLT, Nat.reduceLeDiff, Nat.reduceBEq, reduceIte, reduceCtorEq, Int.reduceToNat, Int.reduceLE, Int.reduceLT, Int.reduceBEq, Int.reduceBNe])
        simp only [go_sem, Nat.reduceAdd, Nat.reduceSub, Nat.reduceMul, Nat.reduceEqDiff, Nat.reduceLT, Nat.reduceLeDiff, Nat.reduceBEq, reduceIte, reduceCtorEq, Int.reduceToNat, Int.reduceLE, Int.reduceLT, Int.reduceBEq, Int.reduceBNe, hw1]
        exact ⟨⟨i + 1, by omega, rfl, rfl⟩, by omega⟩

end Go.Proofs.Ytodbafiepdcfbaa
