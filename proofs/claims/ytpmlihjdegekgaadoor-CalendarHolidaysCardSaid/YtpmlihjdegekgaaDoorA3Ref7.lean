/- The reference: working days, day by day. Two equal lists. -/
import Derived.Test.YtpmlihjdegekgaaDoorA3Ref6
set_option linter.unusedSimpArgs false
set_option linter.unusedVariables false
set_option linter.unusedSectionVars false
namespace Go.Proofs.YtpmlihjdegekgaaDoor
open Go Go.Abs
open Go.RowKit (Below)
set_option linter.unusedSimpArgs false
set_option linter.unusedVariables false

theorem same_ok (zs : List Int) (hz : zs.length ≤ 9223372036854775806) : AFn Tryd.prog 16 [.pure 1 (numsE .i64 zs), .pure 1 (numsE .i64 zs)] [] (fun v rs => v = .bool true ∧ rs = []) := by
  refine afn Tryd.func16 a16_ok (by simp [a16]) ?_
  simp only [go_sem, Nat.reduceAdd, Nat.reduceSub, Nat.reduceMul, Nat.reduceEqDiff, Nat.reduceLT, Nat.reduceLeDiff, Nat.reduceBEq, reduceIte, reduceCtorEq, Int.reduceToNat, Int.reduceLE, Int.reduceLT, Int.reduceBEq, Int.reduceBNe, a16, a16r0, a16r1, a16r2, a16r3, a16r4, a16r5, a16r6, a16r7, a16r8, bne_self_eq_false]
  refine avc_loop (fun env rows => ∃ i : Nat, i ≤ zs.length ∧ env = [(0, .pure 1 (numsE .i64 zs)), (1, .pure 1 (numsE .i64 zs)), (5, .int .i64 i)] ∧ rows = [])
    (fun env _ => match slot env 5 with | .int _ j => (zs.length - j).toNat | _ => 0) ?_ ?_
  · exact Cl.here ⟨0, by omega, rfl, rfl⟩
  · rintro env rows ⟨i, hi, rfl, rfl⟩
    have hw : IntKind.i64.wrap ((i : Int) + 1) = ((i + 1 : Nat) : Int) := by rw [wrap_i64 (by omega) (by omega)]; omega
    simp only [go_sem, Nat.reduceAdd, Nat.reduceSub, Nat.reduceMul, Nat.reduceEqDiff, Nat.reduceLT, Nat.reduceLeDiff, Nat.reduceBEq, reduceIte, reduceCtorEq, Int.reduceToNat, Int.reduceLE, Int.reduceLT, Int.reduceBEq, Int.reduceBNe, a16, a16r0, a16r1, a16r2, a16r3, a16r4, a16r5, a16r6, a16r7, a16r8]
    refine condC_intro ?_ ?_ <;> intro hg2 <;> simp only [decide_eq_true_eq, decide_eq_false_iff_not, beq_iff_eq, beq_eq_false_iff_ne, bne_iff_ne, bne_eq_false_iff_eq, Bool.not_eq_true', Bool.not_eq_false', Int.not_lt, Int.not_le, ne_eq, Bool.and_eq_true, Bool.or_eq_true, Bool.or_eq_false_iff, Bool.and_eq_false_iff] at hg2 <;> simp only [go_sem, Nat.reduceAdd, Nat.reduceSub, Nat.reduceMul, Nat.reduceEqDiff, Nat.reduceLT, Nat.reduceLeDiff, Nat.reduceBEq, reduceIte, reduceCtorEq, Int.reduceToNat, Int.reduceLE, Int.reduceLT, Int.reduceBEq, Int.reduceBNe, a16, a16r0, a16r1, a16r2, a16r3, a16r4, a16r5, a16r6, a16r7, a16r8]
    · have hlt : i < zs.length := by omega
      have hget : (numsE .i64 zs).getD i [] = [.int .i64 zs[i]] := by rw [numsE_getD hlt, List.getD_eq_getElem?_getD, List.getElem?_eq_getElem hlt, Option.getD_some]
      simp only [Int.toNat_natCast, hget]
      simp only [go_sem, Nat.reduceAdd, Nat.reduceSub, Nat.reduceMul, Nat.reduceEqDiff, Nat.reduceLT, Nat.reduceLeDiff, Nat.reduceBEq, reduceIte, reduceCtorEq, Int.reduceToNat, Int.reduceLE, Int.reduceLT, Int.reduceBEq, Int.reduceBNe, bne_self_eq_false, hw]
      repeat (refine And.intro (by first | rfl | omega) ?_)
      refine Cl.here ⟨⟨i + 1, by omega, rfl, rfl⟩, ?_⟩
      simp only [go_sem, Nat.reduceAdd, Nat.reduceSub, Nat.reduceMul, Nat.reduceEqDiff, Nat.reduceLT, Nat.reduceLeDiff, Nat.reduceBEq, reduceIte, reduceCtorEq, Int.reduceToNat, Int.reduceLE, Int.reduceLT, Int.reduceBEq, Int.reduceBNe]
      omega
    · exact Cl.fin rfl ⟨rfl, rfl⟩

theorem rn_hit {h : Hol} {y d : Int} : ((namO h y).isSome = true ∧ rnX h y = d) ↔ namO h y = some d := by
  unfold rnX namO
  rcases hx : nmD h y with _ | x
  · simp
  · rw [Option.filter_some, Option.getD_some]
    split
    · simp
    · simp

theorem rIsHoliday_ok (l : List Hol) (hl : l.length ≤ 1024) (hv : validL l = true) (d : Int) : AFn Tryd.prog 79 [.pure 6 (els l), .int .i64 d] [] (fun v rs => v = .bool (decide (d ∈ allH l)) ∧ rs = []) := by
  refine afn Tryd.func79 a79_ok (by simp [a79]) ?_
  have hD := rDate_ok d
  simp only [go_sem, Nat.reduceAdd, Nat.reduceSub, Nat.reduceMul, Nat.reduceEqDiff, Nat.reduceLT, Nat.reduceLeDiff, Nat.reduceBEq, reduceIte, reduceCtorEq, Int.reduceToNat, Int.reduceLE, Int.reduceLT, Int.reduceBEq, Int.reduceBNe, a79, a79r0, a79r1, a79r2, a79r3, a79r4, a79r5, a79r6, a79r7, a79r8, a79r9, a79r10, a79r11]
  by_cases hd : okD d
  rotate_left
  · rw [if_neg hd] at hD
    refine callC_det hD rfl rfl ?_
    have hno : decide (d ∈ allH l) = false := by
      rw [decide_eq_false_iff_not]
      intro hm
      exact hd (col_okD hm)
    rw [hno]
    simp only [go_sem, Nat.reduceAdd, Nat.reduceSub, Nat.reduceMul, Nat.reduceEqDiff, Nat.reduceLT, Nat.reduceLeDiff, Nat.reduceBEq, reduceIte, reduceCtorEq, Int.reduceToNat, Int.reduceLE, Int.reduceLT, Int.reduceBEq, Int.reduceBNe]
    refine avc_loop (fun env rows => env = [(0, .pure 6 (els l)), (1, .int .i64 d), (5, .int .i64 0), (8, .bool false), (9, .int .i64 0)] ∧ rows = []) (fun _ _ => 0) ?_ ?_
    · exact Cl.here ⟨rfl, rfl⟩
    · rintro env rows ⟨rfl, rfl⟩
      simp only [go_sem, Nat.reduceAdd, Nat.reduceSub, Nat.reduceMul, Nat.reduceEqDiff, Nat.reduceLT, Nat.reduceLeDiff, Nat.reduceBEq, reduceIte, reduceCtorEq, Int.reduceToNat, Int.reduceLE, Int.reduceLT, Int.reduceBEq, Int.reduceBNe, a79, a79r0, a79r1, a79r2, a79r3, a79r4, a79r5, a79r6, a79r7, a79r8, a79r9, a79r10, a79r11]
      exact Cl.fin rfl ⟨rfl, rfl⟩
  rw [if_pos hd] at hD
  refine callC_det hD rfl rfl ?_
  have hy := year_ok (d := d) hd.1 (by have := hd.2; omega)
  have hym := year_max hd.1 hd.2
  have hmem : d ∈ allH l ↔ ∃ h, h ∈ l ∧ ∃ y, max (yearP d - 1) 1970 ≤ y ∧ y ≤ min (yearP d + 1) 2199 ∧ namO h y = some d := by
    rw [allH, col_mem]
    constructor
    · rintro ⟨y, h1, h2, h, hh, hn⟩
      obtain ⟨_, n1, n2⟩ := nam_near (List.all_eq_true.1 hv _ hh) ⟨h1, h2⟩ hn
      exact ⟨h, hh, y, by omega, by omega, hn⟩
    · rintro ⟨h, hh, y, h1, h2, hn⟩
      exact ⟨y, by omega, by omega, h, hh, hn⟩
  generalize yearP d = Y at hy hym hmem ⊢
  generalize (dateM d).1 = M
  generalize (dateM d).2 + 1 = R
  simp only [go_sem, Nat.reduceAdd, Nat.reduceSub, Nat.reduceMul, Nat.reduceEqDiff, Nat.reduceLT, Nat.reduceLeDiff, Nat.reduceBEq, reduceIte, reduceCtorEq, Int.reduceToNat, Int.reduceLE, Int.reduceLT, Int.reduceBEq, Int.reduceBNe]
  refine avc_loop (fun env rows => ∃ i : Nat, i ≤ l.length ∧ (∀ j (hj : j < i) (hl : j < l.length) (y : Int), max (Y - 1) 1970 ≤ y → y ≤ min (Y + 1) 2199 → namO l[j] y ≠ some d) ∧ env = [(0, .pure 6 (els l)), (1, .int .i64 d), (5, .int .i64 Y), (8, .bool true), (9, .int .i64 i)] ∧ rows = [])
    (fun env _ => match slot env 9 with | .int _ j => (l.length - j).toNat | _ => 0) ?_ ?_
  · exact Cl.here ⟨0, by omega, fun j hj => by omega, rfl, rfl⟩
  · rintro env rows ⟨i, hi, hno, rfl, rfl⟩
    have hw : IntKind.i64.wrap ((i : Int) + 1) = ((i + 1 : Nat) : Int) := by rw [wrap_i64 (by omega) (by omega)]; omega
    simp only [go_sem, Nat.reduceAdd, Nat.reduceSub, Nat.reduceMul, Nat.reduceEqDiff, Nat.reduceLT, Nat.reduceLeDiff, Nat.reduceBEq, reduceIte, reduceCtorEq, Int.reduceToNat, Int.reduceLE, Int.reduceLT, Int.reduceBEq, Int.reduceBNe, a79, a79r0, a79r1, a79r2, a79r3, a79r4, a79r5, a79r6, a79r7, a79r8, a79r9, a79r10, a79r11]
    refine condC_intro ?_ ?_ <;> intro hg2 <;> simp only [decide_eq_true_eq, decide_eq_false_iff_not, beq_iff_eq, beq_eq_false_iff_ne, bne_iff_ne, bne_eq_false_iff_eq, Bool.not_eq_true', Bool.not_eq_false', Int.not_lt, Int.not_le, ne_eq, Bool.and_eq_true, Bool.or_eq_true, Bool.or_eq_false_iff, Bool.and_eq_false_iff] at hg2 <;> simp only [go_sem, Nat.reduceAdd, Nat.reduceSub, Nat.reduceMul, Nat.reduceEqDiff, Nat.reduceLT, Nat.reduceLeDiff, Nat.reduceBEq, reduceIte, reduceCtorEq, Int.reduceToNat, Int.reduceLE, Int.reduceLT, Int.reduceBEq, Int.reduceBNe, a79, a79r0, a79r1, a79r2, a79r3, a79r4, a79r5, a79r6, a79r7, a79r8, a79r9, a79r10, a79r11]
    · have hlt : i < l.length := by omega
      have hr := validL_get hv hlt
      rw [wrap_i64 (x := Y - 1) (by omega) (by omega)]
      refine avc_loop (fun env rows => ∃ n : Nat, max (Y - 1) 1970 + n ≤ min (Y + 1) 2199 + 1 ∧ (∀ y : Int, max (Y - 1) 1970 ≤ y → y < max (Y - 1) 1970 + n → namO l[i] y ≠ some d) ∧ env = [(0, .pure 6 (els l)), (1, .int .i64 d), (5, .int .i64 Y), (8, .bool true), (9, .int .i64 i), (10, .int .i64 (max (Y - 1) 1970 + n))] ∧ rows = [])
        (fun env _ => match slot env 10 with | .int _ j => (3000 - j).toNat | _ => 0) ?_ ?_
      · exact Cl.here ⟨0, by omega, fun y h1 h2 => by omega, by simp, rfl⟩
      · rintro env rows ⟨n, hn, hno2, rfl, rfl⟩
        have hwn : IntKind.i64.wrap (max (Y - 1) 1970 + (n : Int) + 1) = max (Y - 1) 1970 + ((n + 1 : Nat) : Int) := by rw [wrap_i64 (by omega) (by omega)]; omega
        simp only [go_sem, Nat.reduceAdd, Nat.reduceSub, Nat.reduceMul, Nat.reduceEqDiff, Nat.reduceLT, Nat.reduceLeDiff, Nat.reduceBEq, reduceIte, reduceCtorEq, Int.reduceToNat, Int.reduceLE, Int.reduceLT, Int.reduceBEq, Int.reduceBNe, a79, a79r0, a79r1, a79r2, a79r3, a79r4, a79r5, a79r6, a79r7, a79r8, a79r9, a79r10, a79r11]
        rw [wrap_i64 (x := Y + 1) (by omega) (by omega)]
        refine condC_intro ?_ ?_ <;> intro hg3 <;> simp only [decide_eq_true_eq, decide_eq_false_iff_not, beq_iff_eq, beq_eq_false_iff_ne, bne_iff_ne, bne_eq_false_iff_eq, Bool.not_eq_true', Bool.not_eq_false', Int.not_lt, Int.not_le, ne_eq, Bool.and_eq_true, Bool.or_eq_true, Bool.or_eq_false_iff, Bool.and_eq_false_iff] at hg3 <;> simp only [go_sem, Nat.reduceAdd, Nat.reduceSub, Nat.reduceMul, Nat.reduceEqDiff, Nat.reduceLT, Nat.reduceLeDiff, Nat.reduceBEq, reduceIte, reduceCtorEq, Int.reduceToNat, Int.reduceLE, Int.reduceLT, Int.reduceBEq, Int.reduceBNe, a79, a79r0, a79r1, a79r2, a79r3, a79r4, a79r5, a79r6, a79r7, a79r8, a79r9, a79r10, a79r11]
        · refine ⟨by omega, by omega, ?_⟩
          try simp only [Int.toNat_natCast]
          rw [els_getD hlt]
          have hmi : l[i] ∈ l := List.getElem_mem hlt
          simp only [go_sem, Nat.reduceAdd, Nat.reduceSub, Nat.reduceMul, Nat.reduceEqDiff, Nat.reduceLT, Nat.reduceLeDiff, Nat.reduceBEq, reduceIte, reduceCtorEq, Int.reduceToNat, Int.reduceLE, Int.reduceLT, Int.reduceBEq, Int.reduceBNe, cel_hol_take, cel_hol_len, cel_hol_one]
          refine callC_det (rnamed_ok l[i] (max (Y - 1) 1970 + n) hr ⟨by omega, by omega⟩) rfl rfl ?_
          have hhit := rn_hit (h := l[i]) (y := max (Y - 1) 1970 + n) (d := d)
          rw [rnV]
          by_cases hin : namO l[i] (max (Y - 1) 1970 + n) = some d
          · obtain ⟨e1, e2⟩ := hhit.2 hin
            rw [e1, e2]
            simp only [go_sem, Nat.reduceAdd, Nat.reduceSub, Nat.reduceMul, Nat.reduceEqDiff, Nat.reduceLT, Nat.reduceLeDiff, Nat.reduceBEq, reduceIte, reduceCtorEq, Int.reduceToNat, Int.reduceLE, Int.reduceLT, Int.reduceBEq, Int.reduceBNe]
            refine Cl.fin rfl ⟨?_, rfl⟩
            rw [decide_eq_true (hmem.2 ⟨l[i], hmi, _, by omega, by omega, hin⟩)]
          · have hstep : ∀ y : Int, max (Y - 1) 1970 ≤ y → y < max (Y - 1) 1970 + ((n + 1 : Nat) : Int) → namO l[i] y ≠ some d := by
              intro y h1 h2
              by_cases hy2 : y = max (Y - 1) 1970 + n
              · subst hy2; exact hin
              · exact hno2 y h1 (by omega)
            rcases hs : (namO l[i] (max (Y - 1) 1970 + n)).isSome with _ | _
            · simp only [go_sem, Nat.reduceAdd, Nat.reduceSub, Nat.reduceMul, Nat.reduceEqDiff, Nat.reduceLT, Nat.reduceLeDiff, Nat.reduceBEq, reduceIte, reduceCtorEq, Int.reduceToNat, Int.reduceLE, Int.reduceLT, Int.reduceBEq, Int.reduceBNe, hwn]
              refine Cl.here ⟨⟨n + 1, by omega, hstep, rfl, rfl⟩, ?_⟩
              simp only [go_sem, Nat.reduceAdd, Nat.reduceSub, Nat.reduceMul, Nat.reduceEqDiff, Nat.reduceLT, Nat.reduceLeDiff, Nat.reduceBEq, reduceIte, reduceCtorEq, Int.reduceToNat, Int.reduceLE, Int.reduceLT, Int.reduceBEq, Int.reduceBNe]
              omega
            · have hne : ¬ rnX l[i] (max (Y - 1) 1970 + n) = d := fun e => hin (hhit.1 ⟨hs, e⟩)
              have hne2 : (rnX l[i] (max (Y - 1) 1970 + n) == d) = false := by simpa using hne
              simp only [go_sem, Nat.reduceAdd, Nat.reduceSub, Nat.reduceMul, Nat.reduceEqDiff, Nat.reduceLT, Nat.reduceLeDiff, Nat.reduceBEq, reduceIte, reduceCtorEq, Int.reduceToNat, Int.reduceLE, Int.reduceLT, Int.reduceBEq, Int.reduceBNe, hne2, hwn]
              refine Cl.here ⟨⟨n + 1, by omega, hstep, rfl, rfl⟩, ?_⟩
              simp only [go_sem, Nat.reduceAdd, Nat.reduceSub, Nat.reduceMul, Nat.reduceEqDiff, Nat.reduceLT, Nat.reduceLeDiff, Nat.reduceBEq, reduceIte, reduceCtorEq, Int.reduceToNat, Int.reduceLE, Int.reduceLT, Int.reduceBEq, Int.reduceBNe]
              omega
        · simp only [go_sem, Nat.reduceAdd, Nat.reduceSub, Nat.reduceMul, Nat.reduceEqDiff, Nat.reduceLT, Nat.reduceLeDiff, Nat.reduceBEq, reduceIte, reduceCtorEq, Int.reduceToNat, Int.reduceLE, Int.reduceLT, Int.reduceBEq, Int.reduceBNe, hw]
          refine Cl.here ⟨⟨i + 1, by omega, fun j hj hl y h1 h2 => ?_, rfl, rfl⟩, ?_⟩
          · by_cases hji : j = i
            · subst hji; exact hno2 y h1 (by omega)
            · exact hno j (by omega) hl y h1 h2
          · simp only [go_sem, Nat.reduceAdd, Nat.reduceSub, Nat.reduceMul, Nat.reduceEqDiff, Nat.reduceLT, Nat.reduceLeDiff, Nat.reduceBEq, reduceIte, reduceCtorEq, Int.reduceToNat, Int.reduceLE, Int.reduceLT, Int.reduceBEq, Int.reduceBNe]
            omega
    · refine Cl.fin rfl ⟨?_, rfl⟩
      rw [decide_eq_false]
      rw [hmem]
      rintro ⟨h, hh, y, h1, h2, hn⟩
      obtain ⟨j, hj, rfl⟩ := List.getElem_of_mem hh
      exact hno j (by omega) hj y h1 h2 hn

theorem rIsWorkday_ok (l : List Hol) (hl : l.length ≤ 1024) (hv : validL l = true) (d : Int) (hd : okD d) : AFn Tryd.prog 70 [.pure 6 (els l), .int .i64 d] [] (fun v rs => v = .bool (isWk (allH l) d) ∧ rs = []) := by
  refine afn Tryd.func70 a70_ok (by simp [a70]) ?_
  obtain ⟨hd0, hd1⟩ := hd
  simp only [go_sem, Nat.reduceAdd, Nat.reduceSub, Nat.reduceMul, Nat.reduceEqDiff, Nat.reduceLT, Nat.reduceLeDiff, Nat.reduceBEq, reduceIte, reduceCtorEq, Int.reduceToNat, Int.reduceLE, Int.reduceLT, Int.reduceBEq, Int.reduceBNe, a70, a70r0, a70r1]
  refine callC_det (rShown_ok d (by omega) (by omega)) rfl rfl ?_
  simp only [go_sem, Nat.reduceAdd, Nat.reduceSub, Nat.reduceMul, Nat.reduceEqDiff, Nat.reduceLT, Nat.reduceLeDiff, Nat.reduceBEq, reduceIte, reduceCtorEq, Int.reduceToNat, Int.reduceLE, Int.reduceLT, Int.reduceBEq, Int.reduceBNe]
  by_cases hw : wdP d < 5
  · simp only [go_sem, Nat.reduceAdd, Nat.reduceSub, Nat.reduceMul, Nat.reduceEqDiff, Nat.reduceLT, Nat.reduceLeDiff, Nat.reduceBEq, reduceIte, reduceCtorEq, Int.reduceToNat, Int.reduceLE, Int.reduceLT, Int.reduceBEq, Int.reduceBNe, hw]
    refine callC_det (rIsHoliday_ok l hl hv d) rfl rfl ?_
    simp only [go_sem, Nat.reduceAdd, Nat.reduceSub, Nat.reduceMul, Nat.reduceEqDiff, Nat.reduceLT, Nat.reduceLeDiff, Nat.reduceBEq, reduceIte, reduceCtorEq, Int.reduceToNat, Int.reduceLE, Int.reduceLT, Int.reduceBEq, Int.reduceBNe]
    exact Cl.fin rfl ⟨by simp [isWk, hw], rfl⟩
  · simp only [go_sem, Nat.reduceAdd, Nat.reduceSub, Nat.reduceMul, Nat.reduceEqDiff, Nat.reduceLT, Nat.reduceLeDiff, Nat.reduceBEq, reduceIte, reduceCtorEq, Int.reduceToNat, Int.reduceLE, Int.reduceLT, Int.reduceBEq, Int.reduceBNe, hw]
    exact Cl.fin rfl ⟨by simp [isWk, hw], rfl⟩

theorem rWorkdays_ok (l : List Hol) (hl : l.length ≤ 9223372036854775806) (a b : Int) : AFn Tryd.prog 46 [.pure 6 (els l), .int .i64 a, .int .i64 b] [] (fun v rs => v = .tup [.int .i64 (workP l a b).1, .int .i64 (workP l a b).2] ∧ rs = []) := by
  refine afn Tryd.func46 a46_ok (by simp [a46]) ?_
  simp only [go_sem, Nat.reduceAdd, Nat.reduceSub, Nat.reduceMul, Nat.reduceEqDiff, Nat.reduceLT, Nat.reduceLeDiff, Nat.reduceBEq, reduceIte, reduceCtorEq, Int.reduceToNat, Int.reduceLE, Int.reduceLT, Int.reduceBEq, Int.reduceBNe, a46, a46r0, a46r1, a46r2, a46r3, a46r4, a46r5, a46r6, a46r7, a46r8, a46r9, a46r10, a46r11, a46r12]
  refine callC_det (rValid_ok l hl) rfl rfl ?_
  simp only [go_sem, Nat.reduceAdd, Nat.reduceSub, Nat.reduceMul, Nat.reduceEqDiff, Nat.reduceLT, Nat.reduceLeDiff, Nat.reduceBEq, reduceIte, reduceCtorEq, Int.reduceToNat, Int.reduceLE, Int.reduceLT, Int.reduceBEq, Int.reduceBNe]
  refine condC_intro ?_ ?_ <;> intro hv <;> simp only [decide_eq_true_eq, decide_eq_false_iff_not, beq_iff_eq, beq_eq_false_iff_ne, bne_iff_ne, bne_eq_false_iff_eq, Bool.not_eq_true', Bool.not_eq_false', Int.not_lt, Int.not_le, ne_eq, Bool.and_eq_true, Bool.or_eq_true, Bool.or_eq_false_iff, Bool.and_eq_false_iff] at hv <;> simp only [go_sem, Nat.reduceAdd, Nat.reduceSub, Nat.reduceMul, Nat.reduceEqDiff, Nat.reduceLT, Nat.reduceLeDiff, Nat.reduceBEq, reduceIte, reduceCtorEq, Int.reduceToNat, Int.reduceLE, Int.reduceLT, Int.reduceBEq, Int.reduceBNe, a46, a46r0, a46r1, a46r2, a46r3, a46r4, a46r5, a46r6, a46r7, a46r8, a46r9, a46r10, a46r11, a46r12]
  · exact Cl.fin rfl ⟨by rw [workP, if_neg hv], rfl⟩
  rw [workP, if_pos hv]
  obtain ⟨hl2, hvl⟩ := validP_zero hv
  refine callC_det (rInDays_ok a) rfl rfl ?_
  simp only [go_sem, Nat.reduceAdd, Nat.reduceSub, Nat.reduceMul, Nat.reduceEqDiff, Nat.reduceLT, Nat.reduceLeDiff, Nat.reduceBEq, reduceIte, reduceCtorEq, Int.reduceToNat, Int.reduceLE, Int.reduceLT, Int.reduceBEq, Int.reduceBNe]
  by_cases ha : okD a
  rotate_left
  · rw [if_neg (fun h => ha h.1)]
    simp only [go_sem, Nat.reduceAdd, Nat.reduceSub, Nat.reduceMul, Nat.reduceEqDiff, Nat.reduceLT, Nat.reduceLeDiff, Nat.reduceBEq, reduceIte, reduceCtorEq, Int.reduceToNat, Int.reduceLE, Int.reduceLT, Int.reduceBEq, Int.reduceBNe, ha]
    exact Cl.fin rfl ⟨rfl, rfl⟩
  simp only [go_sem, Nat.reduceAdd, Nat.reduceSub, Nat.reduceMul, Nat.reduceEqDiff, Nat.reduceLT, Nat.reduceLeDiff, Nat.reduceBEq, reduceIte, reduceCtorEq, Int.reduceToNat, Int.reduceLE, Int.reduceLT, Int.reduceBEq, Int.reduceBNe, ha]
  refine callC_det (rInDays_ok b) rfl rfl ?_
  by_cases hb : okD b
  rotate_left
  · rw [if_neg hb]
    simp only [go_sem, Nat.reduceAdd, Nat.reduceSub, Nat.reduceMul, Nat.reduceEqDiff, Nat.reduceLT, Nat.reduceLeDiff, Nat.reduceBEq, reduceIte, reduceCtorEq, Int.reduceToNat, Int.reduceLE, Int.reduceLT, Int.reduceBEq, Int.reduceBNe, hb]
    exact Cl.fin rfl ⟨rfl, rfl⟩
  rw [if_pos hb]
  simp only [go_sem, Nat.reduceAdd, Nat.reduceSub, Nat.reduceMul, Nat.reduceEqDiff, Nat.reduceLT, Nat.reduceLeDiff, Nat.reduceBEq, reduceIte, reduceCtorEq, Int.reduceToNat, Int.reduceLE, Int.reduceLT, Int.reduceBEq, Int.reduceBNe, hb]
  obtain ⟨ha0, ha1⟩ := ha
  obtain ⟨hb0, hb1⟩ := hb
  refine avc_loop (fun env rows => ∃ n : Nat, (a + n ≤ b + 1 ∨ n = 0) ∧ n ≤ 84006 ∧ env = [(0, .pure 6 (els l)), (2, .int .i64 b), (9, .int .i64 (wkC (allH l) a n)), (10, .int .i64 (a + n))] ∧ rows = [])
    (fun env _ => match slot env 10 with | .int _ j => (100000 - j).toNat | _ => 0) ?_ ?_
  · exact Cl.here ⟨0, .inr rfl, by omega, by simp [wkC], rfl⟩
  · rintro env rows ⟨n, hn, hn2, rfl, rfl⟩
    have hcb := wkC_bd (allH l) a n
    have hw : IntKind.i64.wrap (a + (n : Int) + 1) = a + ((n + 1 : Nat) : Int) := by rw [wrap_i64 (by omega) (by omega)]; omega
    simp only [go_sem, Nat.reduceAdd, Nat.reduceSub, Nat.reduceMul, Nat.reduceEqDiff, Nat.reduceLT, Nat.reduceLeDiff, Nat.reduceBEq, reduceIte, reduceCtorEq, Int.reduceToNat, Int.reduceLE, Int.reduceLT, Int.reduceBEq, Int.reduceBNe, a46, a46r0, a46r1, a46r2, a46r3, a46r4, a46r5, a46r6, a46r7, a46r8, a46r9, a46r10, a46r11, a46r12]
    refine condC_intro ?_ ?_ <;> intro hg2 <;> simp only [decide_eq_true_eq, decide_eq_false_iff_not, beq_iff_eq, beq_eq_false_iff_ne, bne_iff_ne, bne_eq_false_iff_eq, Bool.not_eq_true', Bool.not_eq_false', Int.not_lt, Int.not_le, ne_eq, Bool.and_eq_true, Bool.or_eq_true, Bool.or_eq_false_iff, Bool.and_eq_false_iff] at hg2 <;> simp only [go_sem, Nat.reduceAdd, Nat.reduceSub, Nat.reduceMul, Nat.reduceEqDiff, Nat.reduceLT, Nat.reduceLeDiff, Nat.reduceBEq, reduceIte, reduceCtorEq, Int.reduceToNat, Int.reduceLE, Int.reduceLT, Int.reduceBEq, Int.reduceBNe, a46, a46r0, a46r1, a46r2, a46r3, a46r4, a46r5, a46r6, a46r7, a46r8, a46r9, a46r10, a46r11, a46r12]
    · refine callC_det (rIsWorkday_ok l hl2 hvl (a + n) ⟨by omega, by omega⟩) rfl rfl ?_
      simp only [go_sem, Nat.reduceAdd, Nat.reduceSub, Nat.reduceMul, Nat.reduceEqDiff, Nat.reduceLT, Nat.reduceLeDiff, Nat.reduceBEq, reduceIte, reduceCtorEq, Int.reduceToNat, Int.reduceLE, Int.reduceLT, Int.reduceBEq, Int.reduceBNe]
      refine condC_intro ?_ ?_ <;> intro hg3 <;> simp only [go_sem, Nat.reduceAdd, Nat.reduceSub, Nat.reduceMul, Nat.reduceEqDiff, Nat.reduceLT, Nat.reduceLeDiff, Nat.reduceBEq, reduceIte, reduceCtorEq, Int.reduceToNat, Int.reduceLE, Int.reduceLT, Int.reduceBEq, Int.reduceBNe, a46, a46r0, a46r1, a46r2, a46r3, a46r4, a46r5, a46r6, a46r7, a46r8, a46r9, a46r10, a46r11, a46r12, hw]
      · rw [wrap_i64 (by omega) (by omega)]
        refine Cl.here ⟨⟨n + 1, .inl (by omega), by omega, by rw [wkC, if_pos hg3], rfl⟩, ?_⟩
        simp only [go_sem, Nat.reduceAdd, Nat.reduceSub, Nat.reduceMul, Nat.reduceEqDiff, Nat.reduceLT, Nat.reduceLeDiff, Nat.reduceBEq, reduceIte, reduceCtorEq, Int.reduceToNat, Int.reduceLE, Int.reduceLT, Int.reduceBEq, Int.reduceBNe]
        omega
      · refine Cl.here ⟨⟨n + 1, .inl (by omega), by omega, by rw [wkC, if_neg (by simp [hg3])]; simp, rfl⟩, ?_⟩
        simp only [go_sem, Nat.reduceAdd, Nat.reduceSub, Nat.reduceMul, Nat.reduceEqDiff, Nat.reduceLT, Nat.reduceLeDiff, Nat.reduceBEq, reduceIte, reduceCtorEq, Int.reduceToNat, Int.reduceLE, Int.reduceLT, Int.reduceBEq, Int.reduceBNe]
        omega
    · refine Cl.fin rfl ⟨?_, rfl⟩
      by_cases hba : b < a
      · rw [if_pos hba]
        have : n = 0 := by omega
        subst this
        rfl
      · rw [if_neg hba, wkN_eq hvl ⟨ha0, ha1⟩ ⟨hb0, hb1⟩ (by omega), show (b + 1 - a).toNat = n from by omega]

end Go.Proofs.YtpmlihjdegekgaaDoor
