/- Holidays, at the example of the chapter. -/
import Derived.Test.YtpmlihjdegekgaaDoorA3Fmt
set_option linter.unusedSimpArgs false
set_option linter.unusedVariables false
set_option linter.unusedSectionVars false
namespace Go.Proofs.YtpmlihjdegekgaaDoor
open Go Go.Abs
open Go.RowKit (Below)
set_option linter.unusedSimpArgs false

theorem nth_ex : AFn Tryd.prog 80 [.int .i64 2026, .int .i64 11, .int .i64 3, .int .i64 4] [] (fun v rs => v = .tup [.int .i64 20783, .bool true] ∧ rs = []) := by
  refine afn Tryd.func80 a80_ok (by simp [a80]) ?_
  simp only [go_sem, Nat.reduceAdd, Nat.reduceSub, Nat.reduceMul, Nat.reduceEqDiff, Nat.reduceLT, Nat.reduceLeDiff, Nat.reduceBEq, reduceIte, reduceCtorEq, Int.reduceToNat, Int.reduceLE, Int.reduceLT, Int.reduceBEq, Int.reduceBNe, a80, a80r0, a80r1, a80r2, a80r3, a80r4, a80r5, a80r6, a80r7, a80r8, a80r9]
  refine callC_det (number_ok 2026 11 1 (by omega) (by omega) (by omega) (by omega) (by omega) (by omega)) rfl rfl ?_
  rw [show numP 2026 11 1 = 20758 from rfl]
  simp only [go_sem, Nat.reduceAdd, Nat.reduceSub, Nat.reduceMul, Nat.reduceEqDiff, Nat.reduceLT, Nat.reduceLeDiff, Nat.reduceBEq, reduceIte, reduceCtorEq, Int.reduceToNat, Int.reduceLE, Int.reduceLT, Int.reduceBEq, Int.reduceBNe]
  refine callC_det (length_ok 2026 11 (by omega) (by omega) (by omega)) rfl rfl ?_
  rw [show lenP 2026 11 = 30 from rfl]
  simp only [go_sem, Nat.reduceAdd, Nat.reduceSub, Nat.reduceMul, Nat.reduceEqDiff, Nat.reduceLT, Nat.reduceLeDiff, Nat.reduceBEq, reduceIte, reduceCtorEq, Int.reduceToNat, Int.reduceLE, Int.reduceLT, Int.reduceBEq, Int.reduceBNe]
  refine callC_det (weekday_ok 20758 (by omega) (by omega)) rfl rfl ?_
  rw [show wdP 20758 = 6 from rfl]
  simp only [go_sem, Nat.reduceAdd, Nat.reduceSub, Nat.reduceMul, Nat.reduceEqDiff, Nat.reduceLT, Nat.reduceLeDiff, Nat.reduceBEq, reduceIte, reduceCtorEq, Int.reduceToNat, Int.reduceLE, Int.reduceLT, Int.reduceBEq, Int.reduceBNe]
  rw [show IntKind.i64.wrap ((IntKind.i64.wrap (IntKind.i64.wrap (3 - 6) + 7)).tmod 7 + IntKind.i64.wrap (7 * IntKind.i64.wrap (4 - 1))) = 25 from rfl]
  refine ⟨by decide, ?_⟩
  simp only [go_sem, Nat.reduceAdd, Nat.reduceSub, Nat.reduceMul, Nat.reduceEqDiff, Nat.reduceLT, Nat.reduceLeDiff, Nat.reduceBEq, reduceIte, reduceCtorEq, Int.reduceToNat, Int.reduceLE, Int.reduceLT, Int.reduceBEq, Int.reduceBNe, show decide ((30 : Int) ≤ 25) = false from rfl, show IntKind.i64.wrap (20758 + 25) = 20783 from rfl]
  exact Cl.fin rfl ⟨rfl, rfl⟩

theorem validRule_walk (w : World) : Calls Tryd.prog 51 #[.agg #[.int .i64 2, .int .i64 11, .int .i64 4, .int .i64 3, .int .i64 0, .bool false]] w fun e w' => e = .returned (.bool true) ∧ Below w.heap.size w w' := by
  go_enter Tryd.func51, Tryd.ntmps51
  go_wp2
  go_ret
  exact ⟨rfl, rfl, rfl, rfl, by simp, fun b hb => heap_alloc_old w _ hb⟩
theorem validRule_ex : AFn Tryd.prog 51 [.agg [.int .i64 2, .int .i64 11, .int .i64 4, .int .i64 3, .int .i64 0, .bool false]] [] (fun v rs => v = .bool true ∧ rs = []) := by
  refine AFn.leaf ?_
  rintro C cargs hr hok hG hrep
  simp only [RepL, Rep] at hrep
  obtain ⟨v1, r1, rfl, ⟨vs, rfl, hv⟩, rfl⟩ := hrep
  obtain ⟨a0, q0, h0, rfl, a1, q1, h1, rfl, a2, q2, h2, rfl, a3, q3, h3, rfl, a4, q4, h4, rfl, a5, q5, h5, rfl, rfl⟩ := hv
  have hvs : vs = #[.int .i64 2, .int .i64 11, .int .i64 4, .int .i64 3, .int .i64 0, .bool false] := by
    cases vs; simp_all
  subst hvs
  refine (validRule_walk C.w).mono ?_
  rintro e w' ⟨rfl, hb⟩
  exact ⟨_, .bool true, rfl, hb, fun C' _ => by rw [Rep], rfl, rfl⟩

theorem named_ex : AFn Tryd.prog 72 [.agg [.int .i64 2, .int .i64 11, .int .i64 4, .int .i64 3, .int .i64 0, .bool false], .int .i64 2026] [] (fun v rs => v = .tup [.int .i64 20783, .bool true] ∧ rs = []) := by
  refine afn Tryd.func72 a72_ok (by simp [a72]) ?_
  simp only [go_sem, Nat.reduceAdd, Nat.reduceSub, Nat.reduceMul, Nat.reduceEqDiff, Nat.reduceLT, Nat.reduceLeDiff, Nat.reduceBEq, reduceIte, reduceCtorEq, Int.reduceToNat, Int.reduceLE, Int.reduceLT, Int.reduceBEq, Int.reduceBNe, a72, a72r0, a72r1, a72r2, a72r3, a72r4, a72r5, a72r6, a72r7, a72r8, a72r9, a72r10, a72r11, a72r12, a72r13, a72r14, a72r15, a72r16, a72r17, a72r18]
  refine callC_det nth_ex rfl rfl ?_
  simp only [go_sem, Nat.reduceAdd, Nat.reduceSub, Nat.reduceMul, Nat.reduceEqDiff, Nat.reduceLT, Nat.reduceLeDiff, Nat.reduceBEq, reduceIte, reduceCtorEq, Int.reduceToNat, Int.reduceLE, Int.reduceLT, Int.reduceBEq, Int.reduceBNe]
  rw [show IntKind.i64.wrap (20783 + 0) = 20783 from rfl]
  refine callC_det (weekday_ok 20783 (by omega) (by omega)) rfl rfl ?_
  rw [show wdP 20783 = 3 from rfl]
  simp only [go_sem, Nat.reduceAdd, Nat.reduceSub, Nat.reduceMul, Nat.reduceEqDiff, Nat.reduceLT, Nat.reduceLeDiff, Nat.reduceBEq, reduceIte, reduceCtorEq, Int.reduceToNat, Int.reduceLE, Int.reduceLT, Int.reduceBEq, Int.reduceBNe]
  refine callC_det (valid_ok 20783) rfl rfl ?_
  rw [show decide ((0 : Int) ≤ 20783 ∧ (20783 : Int) ≤ 84005) = true from rfl]
  simp only [go_sem, Nat.reduceAdd, Nat.reduceSub, Nat.reduceMul, Nat.reduceEqDiff, Nat.reduceLT, Nat.reduceLeDiff, Nat.reduceBEq, reduceIte, reduceCtorEq, Int.reduceToNat, Int.reduceLE, Int.reduceLT, Int.reduceBEq, Int.reduceBNe]
  exact Cl.fin rfl ⟨rfl, rfl⟩

theorem Valid_ex : AFn Tryd.prog 15 [.pure 6 [[.int .i64 2, .int .i64 11, .int .i64 4, .int .i64 3, .int .i64 0, .bool false]]] [] (fun v rs => v = .int .i64 0 ∧ rs = []) := by
  refine afn Tryd.func15 a15_ok (by simp [a15]) ?_
  simp only [go_sem, Nat.reduceAdd, Nat.reduceSub, Nat.reduceMul, Nat.reduceEqDiff, Nat.reduceLT, Nat.reduceLeDiff, Nat.reduceBEq, reduceIte, reduceCtorEq, Int.reduceToNat, Int.reduceLE, Int.reduceLT, Int.reduceBEq, Int.reduceBNe, a15, a15r0, a15r1, a15r2, a15r3, a15r4, a15r5, a15r6, a15r7, a15r8, a15r9]
  refine avc_loop (fun env rows => ∃ i : Nat, i ≤ 1 ∧ env = [(8, .pure 6 [[.int .i64 2, .int .i64 11, .int .i64 4, .int .i64 3, .int .i64 0, .bool false]]), (9, .int .i64 1), (10, .int .i64 i)] ∧ rows = [])
    (fun env _ => match slot env 10 with | .int _ j => (1 - j).toNat | _ => 0) ?_ ?_
  · exact Cl.here ⟨0, by omega, rfl, rfl⟩
  · rintro env rows ⟨i, hi, rfl, rfl⟩
    obtain rfl | rfl : i = 0 ∨ i = 1 := by omega
    · simp only [go_sem, Nat.reduceAdd, Nat.reduceSub, Nat.reduceMul, Nat.reduceEqDiff, Nat.reduceLT, Nat.reduceLeDiff, Nat.reduceBEq, reduceIte, reduceCtorEq, Int.reduceToNat, Int.reduceLE, Int.reduceLT, Int.reduceBEq, Int.reduceBNe, a15, a15r0, a15r1, a15r2, a15r3, a15r4, a15r5, a15r6, a15r7, a15r8, a15r9, Int.natCast_zero]
      refine callC_det validRule_ex rfl rfl ?_
      simp only [go_sem, Nat.reduceAdd, Nat.reduceSub, Nat.reduceMul, Nat.reduceEqDiff, Nat.reduceLT, Nat.reduceLeDiff, Nat.reduceBEq, reduceIte, reduceCtorEq, Int.reduceToNat, Int.reduceLE, Int.reduceLT, Int.reduceBEq, Int.reduceBNe]
      (refine Cl.tr [] [] rfl rfl (by simp only [go_sem, Nat.reduceAdd, Nat.reduceSub, Nat.reduceMul, Nat.reduceEqDiff, Nat.reduceLT, Nat.reduceLeDiff, Nat.reduceBEq, reduceIte, reduceCtorEq, Int.reduceToNat, Int.reduceLE, Int.reduceLT, Int.reduceBEq, Int.reduceBNe] <;> rfl) ?_; simp only [go_sem, Nat.reduceAdd, Nat.reduceSub, Nat.reduceMul, Nat.reduceEqDiff, Nat.reduceLT, Nat.reduceLeDiff, Nat.reduceBEq, reduceIte, reduceCtorEq, Int.reduceToNat, Int.reduceLE, Int.reduceLT, Int.reduceBEq, Int.reduceBNe])
      exact Cl.here ⟨⟨1, by omega, rfl, rfl⟩, by decide⟩
    · simp only [go_sem, Nat.reduceAdd, Nat.reduceSub, Nat.reduceMul, Nat.reduceEqDiff, Nat.reduceLT, Nat.reduceLeDiff, Nat.reduceBEq, reduceIte, reduceCtorEq, Int.reduceToNat, Int.reduceLE, Int.reduceLT, Int.reduceBEq, Int.reduceBNe, a15, a15r0, a15r1, a15r2, a15r3, a15r4, a15r5, a15r6, a15r7, a15r8, a15r9, show ((1 : Nat) : Int) = 1 from rfl]
      exact Cl.fin rfl ⟨rfl, rfl⟩

theorem compact_walk (ao : Option Addr) (c : Nat) (w : World) : Calls Tryd.prog 74 #[.slice ao 1 c] w fun e w' => e = .returned (.slice ao 1 c) ∧ w' = w := by
  go_enter Tryd.func74, Tryd.ntmps74
  go_wp2
  go_ret
  exact ⟨rfl, rfl⟩
theorem compact_ok (x : Int) : AFn Tryd.prog 74 [.own 0 1 0 1] [.live 3 1 [[.int .i64 x]]] (fun v rs => v = .own 0 1 0 1 ∧ rs = [.live 3 1 [[.int .i64 x]]]) := by
  refine AFn.leaf ?_
  rintro C cargs hr hok hG hrep
  rw [RepL] at hrep
  obtain ⟨v1, r1, rfl, hv, hn⟩ := hrep
  rw [RepL] at hn
  subst hn
  have hv' := hv
  rw [Rep] at hv'
  obtain ⟨_, ⟨ao, c, rfl⟩, _⟩ := hv'
  refine (compact_walk ao c C.w).mono ?_
  rintro e w' ⟨rfl, rfl⟩
  exact ⟨_, .own 0 1 0 1, rfl, Below.refl _ _, fun C' hx => Rep.ext hx _ _ hv, rfl, rfl⟩

theorem len_walk (w : World) : Calls Tryd.prog 82 #[.int .u64 1] w fun e w' => e = .returned (.int .i64 1) ∧ w' = w := by
  go_enter Tryd.func82, Tryd.ntmps82
  go_wp2
  go_ret
  exact ⟨by kernel_rfl, rfl⟩
theorem len_ok : AFn Tryd.prog 82 [.int .u64 1] [] (fun v rs => v = .int .i64 1 ∧ rs = []) := by
  refine AFn.leaf ?_
  rintro C cargs hr hok hG hrep
  simp only [RepL, Rep] at hrep
  obtain ⟨v1, r1, rfl, rfl, rfl⟩ := hrep
  refine (len_walk C.w).mono ?_
  rintro e w' ⟨rfl, rfl⟩
  exact ⟨_, .int .i64 1, rfl, Below.refl _ _, fun C' _ => by rw [Rep], rfl, rfl⟩
theorem insert_ok (x : Int) : AFn Tryd.prog 84 [.own 0 1 0 1, .int .i64 0, .int .i64 1] [.live 3 1 [[.int .i64 x]]] (fun v rs => v = .tup [] ∧ rs = [.live 3 1 [[.int .i64 x]]]) := by
  refine afn Tryd.func84 a84_ok (by simp [a84]) ?_
  simp only [go_sem, Nat.reduceAdd, Nat.reduceSub, Nat.reduceMul, Nat.reduceEqDiff, Nat.reduceLT, Nat.reduceLeDiff, Nat.reduceBEq, reduceIte, reduceCtorEq, Int.reduceToNat, Int.reduceLE, Int.reduceLT, Int.reduceBEq, Int.reduceBNe, a84, a84r0]
  refine avc_loop (fun env rows => env = [(0, .own 0 1 0 1), (1, .int .i64 0), (2, .int .i64 1), (6, .int .i64 1)] ∧ rows = [.live 3 1 [[.int .i64 x]]]) (fun _ _ => 0) ?_ ?_
  · exact Cl.here ⟨rfl, rfl⟩
  · rintro env rows ⟨rfl, rfl⟩
    simp only [go_sem, Nat.reduceAdd, Nat.reduceSub, Nat.reduceMul, Nat.reduceEqDiff, Nat.reduceLT, Nat.reduceLeDiff, Nat.reduceBEq, reduceIte, reduceCtorEq, Int.reduceToNat, Int.reduceLE, Int.reduceLT, Int.reduceBEq, Int.reduceBNe, a84r1]
    exact Cl.here ⟨rfl, rfl⟩
theorem pdq_ok (x : Int) : AFn Tryd.prog 81 [.own 0 1 0 1, .int .i64 0, .int .i64 1, .int .i64 1] [.live 3 1 [[.int .i64 x]]] (fun v rs => v = .tup [] ∧ rs = [.live 3 1 [[.int .i64 x]]]) := by
  refine afn Tryd.func81 a81_ok (by simp [a81]) ?_
  simp only [go_sem, Nat.reduceAdd, Nat.reduceSub, Nat.reduceMul, Nat.reduceEqDiff, Nat.reduceLT, Nat.reduceLeDiff, Nat.reduceBEq, reduceIte, reduceCtorEq, Int.reduceToNat, Int.reduceLE, Int.reduceLT, Int.reduceBEq, Int.reduceBNe, a81, a81r0, a81r1]
  refine avc_loop (fun env rows => env = [(0, .own 0 1 0 1), (1, .int .i64 0), (2, .int .i64 1), (3, .int .i64 1), (8, .bool true), (9, .bool true)] ∧ rows = [.live 3 1 [[.int .i64 x]]]) (fun _ _ => 0) ?_ ?_
  · exact Cl.here ⟨rfl, rfl⟩
  · rintro env rows ⟨rfl, rfl⟩
    simp only [go_sem, Nat.reduceAdd, Nat.reduceSub, Nat.reduceMul, Nat.reduceEqDiff, Nat.reduceLT, Nat.reduceLeDiff, Nat.reduceBEq, reduceIte, reduceCtorEq, Int.reduceToNat, Int.reduceLE, Int.reduceLT, Int.reduceBEq, Int.reduceBNe, a81r2, a81r3, a81r4]
    rw [show decide (IntKind.i64.wrap (1 - 0) ≤ 12) = true from rfl]
    simp only [go_sem, Nat.reduceAdd, Nat.reduceSub, Nat.reduceMul, Nat.reduceEqDiff, Nat.reduceLT, Nat.reduceLeDiff, Nat.reduceBEq, reduceIte, reduceCtorEq, Int.reduceToNat, Int.reduceLE, Int.reduceLT, Int.reduceBEq, Int.reduceBNe]
    refine callC_of [0] [] (by decide) (by simp only [go_sem, Nat.reduceAdd, Nat.reduceSub, Nat.reduceMul, Nat.reduceEqDiff, Nat.reduceLT, Nat.reduceLeDiff, Nat.reduceBEq, reduceIte, reduceCtorEq, Int.reduceToNat, Int.reduceLE, Int.reduceLT, Int.reduceBEq, Int.reduceBNe] <;> rfl) (by simp only [go_sem, Nat.reduceAdd, Nat.reduceSub, Nat.reduceMul, Nat.reduceEqDiff, Nat.reduceLT, Nat.reduceLeDiff, Nat.reduceBEq, reduceIte, reduceCtorEq, Int.reduceToNat, Int.reduceLE, Int.reduceLT, Int.reduceBEq, Int.reduceBNe] <;> rfl) (insert_ok x) ?_
    rintro _ _ ⟨rfl, rfl⟩
    refine ⟨.inl rfl, ?_⟩
    simp only [go_sem, Nat.reduceAdd, Nat.reduceSub, Nat.reduceMul, Nat.reduceEqDiff, Nat.reduceLT, Nat.reduceLeDiff, Nat.reduceBEq, reduceIte, reduceCtorEq, Int.reduceToNat, Int.reduceLE, Int.reduceLT, Int.reduceBEq, Int.reduceBNe]
    exact Cl.here ⟨rfl, rfl⟩
theorem sort_ok (x : Int) : AFn Tryd.prog 73 [.own 0 1 0 1] [.live 3 1 [[.int .i64 x]]] (fun v rs => v = .tup [] ∧ rs = [.live 3 1 [[.int .i64 x]]]) := by
  refine afn Tryd.func73 a73_ok (by simp [a73]) ?_
  simp only [go_sem, Nat.reduceAdd, Nat.reduceSub, Nat.reduceMul, Nat.reduceEqDiff, Nat.reduceLT, Nat.reduceLeDiff, Nat.reduceBEq, reduceIte, reduceCtorEq, Int.reduceToNat, Int.reduceLE, Int.reduceLT, Int.reduceBEq, Int.reduceBNe, a73, a73r0, a73r1]
  rw [show IntKind.u64.wrap 1 = 1 from rfl]
  refine callC_det len_ok rfl rfl ?_
  simp only [go_sem, Nat.reduceAdd, Nat.reduceSub, Nat.reduceMul, Nat.reduceEqDiff, Nat.reduceLT, Nat.reduceLeDiff, Nat.reduceBEq, reduceIte, reduceCtorEq, Int.reduceToNat, Int.reduceLE, Int.reduceLT, Int.reduceBEq, Int.reduceBNe]
  refine callC_of [0] [] (by decide) (by simp only [go_sem, Nat.reduceAdd, Nat.reduceSub, Nat.reduceMul, Nat.reduceEqDiff, Nat.reduceLT, Nat.reduceLeDiff, Nat.reduceBEq, reduceIte, reduceCtorEq, Int.reduceToNat, Int.reduceLE, Int.reduceLT, Int.reduceBEq, Int.reduceBNe] <;> rfl) (by simp only [go_sem, Nat.reduceAdd, Nat.reduceSub, Nat.reduceMul, Nat.reduceEqDiff, Nat.reduceLT, Nat.reduceLeDiff, Nat.reduceBEq, reduceIte, reduceCtorEq, Int.reduceToNat, Int.reduceLE, Int.reduceLT, Int.reduceBEq, Int.reduceBNe] <;> rfl) (pdq_ok x) ?_
  rintro _ _ ⟨rfl, rfl⟩
  refine ⟨.inl rfl, ?_⟩
  simp only [go_sem, Nat.reduceAdd, Nat.reduceSub, Nat.reduceMul, Nat.reduceEqDiff, Nat.reduceLT, Nat.reduceLeDiff, Nat.reduceBEq, reduceIte, reduceCtorEq, Int.reduceToNat, Int.reduceLE, Int.reduceLT, Int.reduceBEq, Int.reduceBNe]
  exact Cl.here ⟨rfl, rfl⟩

/-- a rule of a holiday -/
structure Hol where
  kind : Int
  month : Int
  day : Int
  weekday : Int
  offset : Int
  moved : Bool
def Hol.cells (p : Hol) : List AVal := [.int .i64 p.kind, .int .i64 p.month, .int .i64 p.day, .int .i64 p.weekday, .int .i64 p.offset, .bool p.moved]
instance : Cel Hol := ⟨Hol.cells, 6, fun _ => rfl, fun _ => rfl, fun _ => rfl⟩
theorem cel_hol (p : Hol) : Cel.c p = [.int .i64 p.kind, .int .i64 p.month, .int .i64 p.day, .int .i64 p.weekday, .int .i64 p.offset, .bool p.moved] := rfl
def hEx : Hol := ⟨2, 11, 4, 3, 0, false⟩
theorem els_hEx : els [hEx] = [[.int .i64 2, .int .i64 11, .int .i64 4, .int .i64 3, .int .i64 0, .bool false]] := rfl

theorem collect_ex : AFn Tryd.prog 48 [.pure 6 (els [hEx]), .int .i64 2026, .int .i64 2026] [] (fun v rs => v = .pure 1 (numsE .i64 [20783]) ∧ rs = []) := by
  refine afnW Tryd.func48 a48_ok (by simp [a48]) ?_
  simp only [go_sem, Nat.reduceAdd, Nat.reduceSub, Nat.reduceMul, Nat.reduceEqDiff, Nat.reduceLT, Nat.reduceLeDiff, Nat.reduceBEq, reduceIte, reduceCtorEq, Int.reduceToNat, Int.reduceLE, Int.reduceLT, Int.reduceBEq, Int.reduceBNe, a48, a48r0, a48r1, a48r2, a48r3, a48r4, a48r5, a48r6, a48r7, a48r8, a48r9, a48r10, a48r11, a48r12, a48r13]
  repeat (refine Cl.here ?_; simp only [go_sem, Nat.reduceAdd, Nat.reduceSub, Nat.reduceMul, Nat.reduceEqDiff, Nat.reduceLT, Nat.reduceLeDiff, Nat.reduceBEq, reduceIte, reduceCtorEq, Int.reduceToNat, Int.reduceLE, Int.reduceLT, Int.reduceBEq, Int.reduceBNe])
  refine avcW_loop (fun env rows => ∃ i : Nat, i ≤ 1 ∧ env = [(0, .pure 6 (els [hEx])), (2, .int .i64 2026), (7, .own 0 i 0 i), (8, .int .i64 (2026 + i))] ∧ rows = [.live 3 1 (numsE .i64 (List.replicate i 20783))])
    (fun env _ => match slot env 8 with | .int _ j => (2027 - j).toNat | _ => 0) ?_ ?_
  · (refine Cl.ghost 7  3  1 rfl (Cl.norm [ 0, 2, 7, 8] ?_); simp only [go_sem, Nat.reduceAdd, Nat.reduceSub, Nat.reduceMul, Nat.reduceEqDiff, Nat.reduceLT, Nat.reduceLeDiff, Nat.reduceBEq, reduceIte, reduceCtorEq, Int.reduceToNat, Int.reduceLE, Int.reduceLT, Int.reduceBEq, Int.reduceBNe])
    exact Cl.here ⟨0, by omega, rfl, rfl⟩
  · rintro env rows ⟨i, hi, rfl, rfl⟩
    obtain rfl | rfl : i = 0 ∨ i = 1 := by omega
    · simp only [go_sem, Nat.reduceAdd, Nat.reduceSub, Nat.reduceMul, Nat.reduceEqDiff, Nat.reduceLT, Nat.reduceLeDiff, Nat.reduceBEq, reduceIte, reduceCtorEq, Int.reduceToNat, Int.reduceLE, Int.reduceLT, Int.reduceBEq, Int.reduceBNe, a48, a48r0, a48r1, a48r2, a48r3, a48r4, a48r5, a48r6, a48r7, a48r8, a48r9, a48r10, a48r11, a48r12, a48r13, Int.natCast_zero, Int.add_zero]
      repeat (refine Cl.here ?_; simp only [go_sem, Nat.reduceAdd, Nat.reduceSub, Nat.reduceMul, Nat.reduceEqDiff, Nat.reduceLT, Nat.reduceLeDiff, Nat.reduceBEq, reduceIte, reduceCtorEq, Int.reduceToNat, Int.reduceLE, Int.reduceLT, Int.reduceBEq, Int.reduceBNe, Int.add_zero])
      refine avcW_loop (fun env rows => ∃ i : Nat, i ≤ 1 ∧ env = [(0, .pure 6 (els [hEx])), (2, .int .i64 2026), (7, .own 0 i 0 i), (8, .int .i64 2026), (19, .pure 6 (els [hEx])), (20, .int .i64 1), (21, .int .i64 i)] ∧ rows = [.live 3 1 (numsE .i64 (List.replicate i 20783))])
        (fun env _ => match slot env 21 with | .int _ j => (1 - j).toNat | _ => 0) ?_ ?_
      · exact Cl.here ⟨0, by omega, rfl, rfl⟩
      · rintro env rows ⟨i, hi, rfl, rfl⟩
        obtain rfl | rfl : i = 0 ∨ i = 1 := by omega
        · simp only [go_sem, Nat.reduceAdd, Nat.reduceSub, Nat.reduceMul, Nat.reduceEqDiff, Nat.reduceLT, Nat.reduceLeDiff, Nat.reduceBEq, reduceIte, reduceCtorEq, Int.reduceToNat, Int.reduceLE, Int.reduceLT, Int.reduceBEq, Int.reduceBNe, a48, a48r0, a48r1, a48r2, a48r3, a48r4, a48r5, a48r6, a48r7, a48r8, a48r9, a48r10, a48r11, a48r12, a48r13, Int.natCast_zero]
          repeat (refine Cl.here ?_; simp only [go_sem, Nat.reduceAdd, Nat.reduceSub, Nat.reduceMul, Nat.reduceEqDiff, Nat.reduceLT, Nat.reduceLeDiff, Nat.reduceBEq, reduceIte, reduceCtorEq, Int.reduceToNat, Int.reduceLE, Int.reduceLT, Int.reduceBEq, Int.reduceBNe])
          simp only [go_sem, Nat.reduceAdd, Nat.reduceSub, Nat.reduceMul, Nat.reduceEqDiff, Nat.reduceLT, Nat.reduceLeDiff, Nat.reduceBEq, reduceIte, reduceCtorEq, Int.reduceToNat, Int.reduceLE, Int.reduceLT, Int.reduceBEq, Int.reduceBNe, show (els [hEx]).getD 0 [] = [.int .i64 2, .int .i64 11, .int .i64 4, .int .i64 3, .int .i64 0, .bool false] from rfl]
          repeat (refine Cl.here ?_; simp only [go_sem, Nat.reduceAdd, Nat.reduceSub, Nat.reduceMul, Nat.reduceEqDiff, Nat.reduceLT, Nat.reduceLeDiff, Nat.reduceBEq, reduceIte, reduceCtorEq, Int.reduceToNat, Int.reduceLE, Int.reduceLT, Int.reduceBEq, Int.reduceBNe])
          refine callC_det named_ex rfl rfl ?_
          simp only [go_sem, Nat.reduceAdd, Nat.reduceSub, Nat.reduceMul, Nat.reduceEqDiff, Nat.reduceLT, Nat.reduceLeDiff, Nat.reduceBEq, reduceIte, reduceCtorEq, Int.reduceToNat, Int.reduceLE, Int.reduceLT, Int.reduceBEq, Int.reduceBNe]
          (refine Cl.tr [some 0] [] rfl rfl (by simp only [go_sem, Nat.reduceAdd, Nat.reduceSub, Nat.reduceMul, Nat.reduceEqDiff, Nat.reduceLT, Nat.reduceLeDiff, Nat.reduceBEq, reduceIte, reduceCtorEq, Int.reduceToNat, Int.reduceLE, Int.reduceLT, Int.reduceBEq, Int.reduceBNe] <;> rfl) ?_; simp only [go_sem, Nat.reduceAdd, Nat.reduceSub, Nat.reduceMul, Nat.reduceEqDiff, Nat.reduceLT, Nat.reduceLeDiff, Nat.reduceBEq, reduceIte, reduceCtorEq, Int.reduceToNat, Int.reduceLE, Int.reduceLT, Int.reduceBEq, Int.reduceBNe])
          (refine Cl.here ?_; simp only [go_sem, Nat.reduceAdd, Nat.reduceSub, Nat.reduceMul, Nat.reduceEqDiff, Nat.reduceLT, Nat.reduceLeDiff, Nat.reduceBEq, reduceIte, reduceCtorEq, Int.reduceToNat, Int.reduceLE, Int.reduceLT, Int.reduceBEq, Int.reduceBNe])
          (refine Cl.here ?_; simp only [go_sem, Nat.reduceAdd, Nat.reduceSub, Nat.reduceMul, Nat.reduceEqDiff, Nat.reduceLT, Nat.reduceLeDiff, Nat.reduceBEq, reduceIte, reduceCtorEq, Int.reduceToNat, Int.reduceLE, Int.reduceLT, Int.reduceBEq, Int.reduceBNe])
          (refine Cl.tr [some 0] [] rfl rfl (by simp only [go_sem, Nat.reduceAdd, Nat.reduceSub, Nat.reduceMul, Nat.reduceEqDiff, Nat.reduceLT, Nat.reduceLeDiff, Nat.reduceBEq, reduceIte, reduceCtorEq, Int.reduceToNat, Int.reduceLE, Int.reduceLT, Int.reduceBEq, Int.reduceBNe] <;> rfl) ?_; simp only [go_sem, Nat.reduceAdd, Nat.reduceSub, Nat.reduceMul, Nat.reduceEqDiff, Nat.reduceLT, Nat.reduceLeDiff, Nat.reduceBEq, reduceIte, reduceCtorEq, Int.reduceToNat, Int.reduceLE, Int.reduceLT, Int.reduceBEq, Int.reduceBNe])
          (refine Cl.here ?_; simp only [go_sem, Nat.reduceAdd, Nat.reduceSub, Nat.reduceMul, Nat.reduceEqDiff, Nat.reduceLT, Nat.reduceLeDiff, Nat.reduceBEq, reduceIte, reduceCtorEq, Int.reduceToNat, Int.reduceLE, Int.reduceLT, Int.reduceBEq, Int.reduceBNe])
          exact Cl.here ⟨⟨1, by omega, rfl, rfl⟩, by decide⟩
        · simp only [go_sem, Nat.reduceAdd, Nat.reduceSub, Nat.reduceMul, Nat.reduceEqDiff, Nat.reduceLT, Nat.reduceLeDiff, Nat.reduceBEq, reduceIte, reduceCtorEq, Int.reduceToNat, Int.reduceLE, Int.reduceLT, Int.reduceBEq, Int.reduceBNe, a48, a48r0, a48r1, a48r2, a48r3, a48r4, a48r5, a48r6, a48r7, a48r8, a48r9, a48r10, a48r11, a48r12, a48r13, show ((1 : Nat) : Int) = 1 from rfl]
          repeat (refine Cl.here ?_; simp only [go_sem, Nat.reduceAdd, Nat.reduceSub, Nat.reduceMul, Nat.reduceEqDiff, Nat.reduceLT, Nat.reduceLeDiff, Nat.reduceBEq, reduceIte, reduceCtorEq, Int.reduceToNat, Int.reduceLE, Int.reduceLT, Int.reduceBEq, Int.reduceBNe])
          exact ⟨⟨1, by omega, rfl, rfl⟩, by decide⟩
    · simp only [go_sem, Nat.reduceAdd, Nat.reduceSub, Nat.reduceMul, Nat.reduceEqDiff, Nat.reduceLT, Nat.reduceLeDiff, Nat.reduceBEq, reduceIte, reduceCtorEq, Int.reduceToNat, Int.reduceLE, Int.reduceLT, Int.reduceBEq, Int.reduceBNe, a48, a48r0, a48r1, a48r2, a48r3, a48r4, a48r5, a48r6, a48r7, a48r8, a48r9, a48r10, a48r11, a48r12, a48r13, show ((1 : Nat) : Int) = 1 from rfl, show (2026 : Int) + 1 = 2027 from rfl]
      repeat (refine Cl.here ?_; simp only [go_sem, Nat.reduceAdd, Nat.reduceSub, Nat.reduceMul, Nat.reduceEqDiff, Nat.reduceLT, Nat.reduceLeDiff, Nat.reduceBEq, reduceIte, reduceCtorEq, Int.reduceToNat, Int.reduceLE, Int.reduceLT, Int.reduceBEq, Int.reduceBNe])
      refine callC_of [0] [] (by decide) (srows := [.live 3 1 [[.int .i64 20783]]]) rfl (by simp only [go_sem, Nat.reduceAdd, Nat.reduceSub, Nat.reduceMul, Nat.reduceEqDiff, Nat.reduceLT, Nat.reduceLeDiff, Nat.reduceBEq, reduceIte, reduceCtorEq, Int.reduceToNat, Int.reduceLE, Int.reduceLT, Int.reduceBEq, Int.reduceBNe] <;> rfl) (sort_ok 20783) ?_
      rintro _ _ ⟨rfl, rfl⟩
      refine ⟨.inl rfl, ?_⟩
      simp only [go_sem, Nat.reduceAdd, Nat.reduceSub, Nat.reduceMul, Nat.reduceEqDiff, Nat.reduceLT, Nat.reduceLeDiff, Nat.reduceBEq, reduceIte, reduceCtorEq, Int.reduceToNat, Int.reduceLE, Int.reduceLT, Int.reduceBEq, Int.reduceBNe]
      (refine Cl.here ?_; simp only [go_sem, Nat.reduceAdd, Nat.reduceSub, Nat.reduceMul, Nat.reduceEqDiff, Nat.reduceLT, Nat.reduceLeDiff, Nat.reduceBEq, reduceIte, reduceCtorEq, Int.reduceToNat, Int.reduceLE, Int.reduceLT, Int.reduceBEq, Int.reduceBNe])
      refine callC_of [0] [] (by decide) (srows := [.live 3 1 [[.int .i64 20783]]]) rfl (by simp only [go_sem, Nat.reduceAdd, Nat.reduceSub, Nat.reduceMul, Nat.reduceEqDiff, Nat.reduceLT, Nat.reduceLeDiff, Nat.reduceBEq, reduceIte, reduceCtorEq, Int.reduceToNat, Int.reduceLE, Int.reduceLT, Int.reduceBEq, Int.reduceBNe] <;> rfl) (compact_ok 20783) ?_
      rintro _ _ ⟨rfl, rfl⟩
      refine ⟨.inl rfl, ?_⟩
      simp only [go_sem, Nat.reduceAdd, Nat.reduceSub, Nat.reduceMul, Nat.reduceEqDiff, Nat.reduceLT, Nat.reduceLeDiff, Nat.reduceBEq, reduceIte, reduceCtorEq, Int.reduceToNat, Int.reduceLE, Int.reduceLT, Int.reduceBEq, Int.reduceBNe]
      (refine Cl.frz [] [ 0] rfl rfl (by simp only [go_sem, Nat.reduceAdd, Nat.reduceSub, Nat.reduceMul, Nat.reduceEqDiff, Nat.reduceLT, Nat.reduceLeDiff, Nat.reduceBEq, reduceIte, reduceCtorEq, Int.reduceToNat, Int.reduceLE, Int.reduceLT, Int.reduceBEq, Int.reduceBNe] <;> rfl) ?_; simp only [go_sem, Nat.reduceAdd, Nat.reduceSub, Nat.reduceMul, Nat.reduceEqDiff, Nat.reduceLT, Nat.reduceLeDiff, Nat.reduceBEq, reduceIte, reduceCtorEq, Int.reduceToNat, Int.reduceLE, Int.reduceLT, Int.reduceBEq, Int.reduceBNe])
      (refine Cl.here ?_; simp only [go_sem, Nat.reduceAdd, Nat.reduceSub, Nat.reduceMul, Nat.reduceEqDiff, Nat.reduceLT, Nat.reduceLeDiff, Nat.reduceBEq, reduceIte, reduceCtorEq, Int.reduceToNat, Int.reduceLE, Int.reduceLT, Int.reduceBEq, Int.reduceBNe])
      exact Cl.here ⟨rfl, rfl⟩

theorem Holidays_ex : AFn Tryd.prog 13 [.pure 6 (els [hEx]), .int .i64 2026] [] (fun v rs => v = .tup [.pure 1 (numsE .i64 [20783]), .int .i64 0] ∧ rs = []) := by
  refine afn Tryd.func13 a13_ok (by simp [a13]) ?_
  simp only [go_sem, Nat.reduceAdd, Nat.reduceSub, Nat.reduceMul, Nat.reduceEqDiff, Nat.reduceLT, Nat.reduceLeDiff, Nat.reduceBEq, reduceIte, reduceCtorEq, Int.reduceToNat, Int.reduceLE, Int.reduceLT, Int.reduceBEq, Int.reduceBNe, a13, a13r0, a13r1, a13r2, a13r3, a13r4, a13r5, a13r6]
  refine callC_det Valid_ex rfl rfl ?_
  simp only [go_sem, Nat.reduceAdd, Nat.reduceSub, Nat.reduceMul, Nat.reduceEqDiff, Nat.reduceLT, Nat.reduceLeDiff, Nat.reduceBEq, reduceIte, reduceCtorEq, Int.reduceToNat, Int.reduceLE, Int.reduceLT, Int.reduceBEq, Int.reduceBNe]
  refine callC_det collect_ex rfl rfl ?_
  simp only [go_sem, Nat.reduceAdd, Nat.reduceSub, Nat.reduceMul, Nat.reduceEqDiff, Nat.reduceLT, Nat.reduceLeDiff, Nat.reduceBEq, reduceIte, reduceCtorEq, Int.reduceToNat, Int.reduceLE, Int.reduceLT, Int.reduceBEq, Int.reduceBNe]
  exact Cl.fin rfl ⟨rfl, rfl⟩
theorem HolidaysOwn_ex : AFn Tryd.prog 13 [.own 0 1 0 1, .int .i64 2026] [.live 25 6 (els [hEx])] (fun v rs => v = .tup [.pure 1 (numsE .i64 [20783]), .int .i64 0] ∧ rs = [.dead]) :=
  (AFn.give (l := [hEx]) rfl Holidays_ex (by rintro _ _ ⟨rfl, rfl⟩; exact ⟨rfl, rfl⟩)).mono (by rintro _ _ ⟨⟨rfl, _⟩, rfl⟩; exact ⟨rfl, rfl⟩)

end Go.Proofs.YtpmlihjdegekgaaDoor
