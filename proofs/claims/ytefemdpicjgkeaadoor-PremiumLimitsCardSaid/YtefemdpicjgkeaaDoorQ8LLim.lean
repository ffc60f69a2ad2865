/- PremiumLimits. -/
import Derived.Test.YtefemdpicjgkeaaDoorQ8San
set_option linter.unusedSimpArgs false
set_option linter.unusedVariables false
set_option linter.unusedSectionVars false
namespace Go.Proofs.YtefemdpicjgkeaaDoor
open Go Go.Abs
set_option linter.unusedSimpArgs false
set_option linter.unusedVariables false

theorem win_snoc {l : List Win} {r : Int} : els l ++ [[.str nightB, .str nightB, .int .i64 r, .int .i64 1320, .int .i64 360, .int .i64 127, .int .i64 0]] = els (l ++ [nW r]) := els_snoc (x := nW r)
theorem pc_snoc {l : List Pc} {d f t : Int} {b : ByteArray} : els l ++ [[.int .i64 d, .int .i64 f, .int .i64 t, .str b]] = els (l ++ [⟨d, f, t, b⟩]) := els_snoc (x := Pc.mk d f t b)
theorem markE_nil (ps : List Pc) : markE z0 [] [] ps = pcE ps := by
  unfold markE vldE winsP
  rw [vZ_z0, validP_nil]; simp
/-- pieces of a minute -/
def one1 (ps : List Pc) : Prop := ∀ p ∈ ps, pcOk p ∧ p.to = p.fr + 1
theorem pcSum_one : ∀ {ps : List Pc}, one1 ps → pcSum ps = ps.length
  | [], _ => by simp [pcSum]
  | p :: ps, h => by
    have ih := pcSum_one (ps := ps) fun q hq => h q (List.mem_cons_of_mem _ hq)
    have := (h p List.mem_cons_self).2
    unfold pcSum at *
    rw [List.map_cons, List.sum_cons, ih, List.length_cons]
    omega
theorem pcE_one {ps : List Pc} (h : one1 ps) : pcE ps = if 4096 < ps.length then 3 else 0 := by
  unfold pcE
  rw [if_pos (fun p hp => (h p hp).1), pcSum_one h]
  split
  · rfl
  · rw [if_neg (by omega)]
theorem pcE_long {p : Pc} (h : pcOk p) : pcE [p] = if 100000 < p.to - p.fr then 3 else 0 := by
  unfold pcE
  rw [if_neg (by simp), if_pos (by intro q hq; rw [List.mem_singleton] at hq; rw [hq]; exact h)]
  simp [pcSum]

theorem markL_nil (ps : List Pc) : markL z0 [] [] ps = [] := by
  unfold markL
  rw [List.flatMap_eq_nil_iff]
  intro d _
  rfl
theorem mkN0 (ps : List Pc) (hl : ps.length ≤ 1000000) (h : pcE ps = 0) : AFn Tryd.prog 9 [.agg [.int .i64 0, .nils], .nils, .nils, .pure 4 (els ps)] [] (fun v rs => v = .tup [.own 0 0 0 0, .int .i64 0] ∧ rs = [.live 52 3 []]) := by
  have h1 := Mark_ok z0 [] (by simp) [] (by simp) ps hl
  simp only [markE_nil, h, if_true, markL_nil] at h1
  exact h1.le (by simp [leL, le, Zn.v, z0, els])
theorem mkN1 (ps : List Pc) (hl : ps.length ≤ 1000000) (h : pcE ps = 3) : AFn Tryd.prog 9 [.agg [.int .i64 0, .nils], .nils, .nils, .pure 4 (els ps)] [] (fun v rs => v = .tup [.nils, .int .i64 3] ∧ rs = []) := by
  have h1 := Mark_ok z0 [] (by simp) [] (by simp) ps hl
  simp only [markE_nil, h, show ¬ ((3 : Int) = 0) by decide, if_false] at h1
  exact h1.le (by simp [leL, le, Zn.v, z0, els])

theorem vld_lim (ws : List Win) (hl : ws.length ≤ 1000000) (h : winsP ws = true) : AFn Tryd.prog 10 [.agg [.int .i64 0, .nils], .nils, .pure 7 (els ws)] [] (fun v rs => v = .int .i64 (if 16 < ws.length then 3 else 0) ∧ rs = []) := by
  have h1 := PValid_ok z0 [] (by simp) ws hl
  have e : vldE z0 [] ws = if 16 < ws.length then 3 else 0 := by
    unfold vldE
    rw [vZ_z0, validP_nil, h]; simp
  rw [e] at h1
  exact h1.le (by simp [leL, le, Zn.v, z0, els])

set_option maxHeartbeats 1000000 in
theorem premiumLimits (n m : Int) : AFn Tryd.prog 3 [.int .i64 n, .int .i64 m] [] (fun v rs => v = .bool true ∧ rs = []) := by
  refine afn Tryd.func3 a3_ok (by simp [a3]) ?_
  simp only [go_sem, Nat.reduceAdd, Nat.reduceSub, Nat.reduceMul, Nat.reduceEqDiff, Nat.reduceLT, Nat.reduceLeDiff, Nat.reduceBEq, reduceIte, reduceCtorEq, Int.reduceToNat, Int.reduceLE, Int.reduceLT, Int.reduceBEq, Int.reduceBNe, a3, a3r0, a3r1, a3r2, a3r3, a3r4, a3r5, a3r6, a3r7, a3r8, a3r9, a3r10, a3r11, a3r12, a3r13, a3r14]
  refine callC_det (mod_ok n 3 (by omega) (by omega)) rfl rfl ?_
  have hc := mod_bounds (v := n) (n := 3) (by omega)
  generalize mod n 3 = c at hc ⊢
  have hw1 : IntKind.i64.wrap (15 + c) = 15 + c := wrap_i64 (by omega) (by omega)
  simp only [go_sem, Nat.reduceAdd, Nat.reduceSub, Nat.reduceMul, Nat.reduceEqDiff, Nat.reduceLT, Nat.reduceLeDiff, Nat.reduceBEq, reduceIte, reduceCtorEq, Int.reduceToNat, Int.reduceLE, Int.reduceLT, Int.reduceBEq, Int.reduceBNe, hw1]
  refine avc_loop (fun env rows => ∃ (ws : List Win) (i : Int), 0 ≤ i ∧ ws.length + i = 15 + c ∧ winsP ws = true ∧ env = [(1, .int .i64 m), (5, .own 0 ws.length 0 ws.length), (6, .int .i64 i)] ∧ rows = [.live 25 7 (els ws)])
    (fun env _ => match slot env 6 with | .int _ j => j.toNat | _ => 0) ?_ ?_
  · (refine Cl.ghost 5  25  7 rfl (Cl.norm [ 1, 5, 6] ?_); simp only [go_sem, Nat.reduceAdd, Nat.reduceSub, Nat.reduceMul, Nat.reduceEqDiff, Nat.reduceLT, Nat.reduceLeDiff, Nat.reduceBEq, reduceIte, reduceCtorEq, Int.reduceToNat, Int.reduceLE, Int.reduceLT, Int.reduceBEq, Int.reduceBNe])
    exact Cl.here ⟨[], 15 + c, by omega, by simp, rfl, rfl, rfl⟩
  · rintro env rows ⟨ws, i, hi, hl, hws, rfl, rfl⟩
    simp only [go_sem, Nat.reduceAdd, Nat.reduceSub, Nat.reduceMul, Nat.reduceEqDiff, Nat.reduceLT, Nat.reduceLeDiff, Nat.reduceBEq, reduceIte, reduceCtorEq, Int.reduceToNat, Int.reduceLE, Int.reduceLT, Int.reduceBEq, Int.reduceBNe, a3, a3r0, a3r1, a3r2, a3r3, a3r4, a3r5, a3r6, a3r7, a3r8, a3r9, a3r10, a3r11, a3r12, a3r13, a3r14]
    refine condC_intro ?_ ?_ <;> intro hg <;> simp only [decide_eq_true_eq, decide_eq_false_iff_not, beq_iff_eq, beq_eq_false_iff_ne, bne_iff_ne, bne_eq_false_iff_eq, Bool.not_eq_true', Bool.not_eq_false', Int.not_lt, Int.not_le, ne_eq, Bool.and_eq_true, Bool.or_eq_true, Bool.or_eq_false_iff, Bool.and_eq_false_iff] at hg <;> simp only [go_sem, Nat.reduceAdd, Nat.reduceSub, Nat.reduceMul, Nat.reduceEqDiff, Nat.reduceLT, Nat.reduceLeDiff, Nat.reduceBEq, reduceIte, reduceCtorEq, Int.reduceToNat, Int.reduceLE, Int.reduceLT, Int.reduceBEq, Int.reduceBNe, a3, a3r0, a3r1, a3r2, a3r3, a3r4, a3r5, a3r6, a3r7, a3r8, a3r9, a3r10, a3r11, a3r12, a3r13, a3r14]
    · refine callC_det (night_ok i) rfl rfl ?_
      have hw2 : IntKind.i64.wrap (i - 1) = i - 1 := wrap_i64 (by omega) (by omega)
      simp only [go_sem, Nat.reduceAdd, Nat.reduceSub, Nat.reduceMul, Nat.reduceEqDiff, Nat.reduceLT, Nat.reduceLeDiff, Nat.reduceBEq, reduceIte, reduceCtorEq, Int.reduceToNat, Int.reduceLE, Int.reduceLT, Int.reduceBEq, Int.reduceBNe, a3, a3r0, a3r1, a3r2, a3r3, a3r4, a3r5, a3r6, a3r7, a3r8, a3r9, a3r10, a3r11, a3r12, a3r13, a3r14, hw2]
      refine ⟨by omega, ?_⟩
      rw [win_snoc]
      (refine Cl.tr [some 0] [] rfl rfl (by simp only [go_sem, Nat.reduceAdd, Nat.reduceSub, Nat.reduceMul, Nat.reduceEqDiff, Nat.reduceLT, Nat.reduceLeDiff, Nat.reduceBEq, reduceIte, reduceCtorEq, Int.reduceToNat, Int.reduceLE, Int.reduceLT, Int.reduceBEq, Int.reduceBNe] <;> rfl) ?_; simp only [go_sem, Nat.reduceAdd, Nat.reduceSub, Nat.reduceMul, Nat.reduceEqDiff, Nat.reduceLT, Nat.reduceLeDiff, Nat.reduceBEq, reduceIte, reduceCtorEq, Int.reduceToNat, Int.reduceLE, Int.reduceLT, Int.reduceBEq, Int.reduceBNe])
      refine Cl.here ⟨⟨ws ++ [nW i], i - 1, by omega, by simp; omega, ?_, by simp, rfl⟩, ?_⟩
      · unfold winsP at *
        rw [List.all_append, hws]
        simp [winP_nW (r := i) (by omega) (by omega)]
      · simp only [go_sem, Nat.reduceAdd, Nat.reduceSub, Nat.reduceMul, Nat.reduceEqDiff, Nat.reduceLT, Nat.reduceLeDiff, Nat.reduceBEq, reduceIte, reduceCtorEq, Int.reduceToNat, Int.reduceLE, Int.reduceLT, Int.reduceBEq, Int.reduceBNe]
        omega
    · obtain rfl : i = 0 := by omega
      refine callC_det (mod_ok m 3 (by omega) (by omega)) rfl rfl ?_
      have hd := mod_bounds (v := m) (n := 3) (by omega)
      generalize hde : mod m 3 = d at hd ⊢
      have hw3 : IntKind.i64.wrap (4095 + d) = 4095 + d := wrap_i64 (by omega) (by omega)
      simp only [go_sem, Nat.reduceAdd, Nat.reduceSub, Nat.reduceMul, Nat.reduceEqDiff, Nat.reduceLT, Nat.reduceLeDiff, Nat.reduceBEq, reduceIte, reduceCtorEq, Int.reduceToNat, Int.reduceLE, Int.reduceLT, Int.reduceBEq, Int.reduceBNe, hw3]
      refine avc_loop (fun env rows => ∃ (ps : List Pc) (j : Int), 0 ≤ j ∧ ps.length + j = 4095 + d ∧ one1 ps ∧ env = [(1, .int .i64 m), (5, .own 0 ws.length 0 ws.length), (7, .own 1 ps.length 0 ps.length), (8, .int .i64 j)] ∧ rows = [.live 25 7 (els ws), .live 31 4 (els ps)])
        (fun env _ => match slot env 8 with | .int _ j => j.toNat | _ => 0) ?_ ?_
      · (refine Cl.ghost 7  31  4 rfl (Cl.norm [ 1, 5, 7, 8] ?_); simp only [go_sem, Nat.reduceAdd, Nat.reduceSub, Nat.reduceMul, Nat.reduceEqDiff, Nat.reduceLT, Nat.reduceLeDiff, Nat.reduceBEq, reduceIte, reduceCtorEq, Int.reduceToNat, Int.reduceLE, Int.reduceLT, Int.reduceBEq, Int.reduceBNe])
        exact Cl.here ⟨[], 4095 + d, by omega, by simp, fun p hp => by simp at hp, rfl, rfl⟩
      · rintro env rows ⟨ps, j, hj, hl2, hps, rfl, rfl⟩
        simp only [go_sem, Nat.reduceAdd, Nat.reduceSub, Nat.reduceMul, Nat.reduceEqDiff, Nat.reduceLT, Nat.reduceLeDiff, Nat.reduceBEq, reduceIte, reduceCtorEq, Int.reduceToNat, Int.reduceLE, Int.reduceLT, Int.reduceBEq, Int.reduceBNe, a3, a3r0, a3r1, a3r2, a3r3, a3r4, a3r5, a3r6, a3r7, a3r8, a3r9, a3r10, a3r11, a3r12, a3r13, a3r14]
        refine condC_intro ?_ ?_ <;> intro hg2 <;> simp only [decide_eq_true_eq, decide_eq_false_iff_not, beq_iff_eq, beq_eq_false_iff_ne, bne_iff_ne, bne_eq_false_iff_eq, Bool.not_eq_true', Bool.not_eq_false', Int.not_lt, Int.not_le, ne_eq, Bool.and_eq_true, Bool.or_eq_true, Bool.or_eq_false_iff, Bool.and_eq_false_iff] at hg2 <;> simp only [go_sem, Nat.reduceAdd, Nat.reduceSub, Nat.reduceMul, Nat.reduceEqDiff, Nat.reduceLT, Nat.reduceLeDiff, Nat.reduceBEq, reduceIte, reduceCtorEq, Int.reduceToNat, Int.reduceLE, Int.reduceLT, Int.reduceBEq, Int.reduceBNe, a3, a3r0, a3r1, a3r2, a3r3, a3r4, a3r5, a3r6, a3r7, a3r8, a3r9, a3r10, a3r11, a3r12, a3r13, a3r14]
        · have hw4 : IntKind.i64.wrap (29453760 + j) = 29453760 + j := wrap_i64 (by omega) (by omega)
          have hw5 : IntKind.i64.wrap (29453760 + j + 1) = 29453760 + j + 1 := wrap_i64 (by omega) (by omega)
          have hw6 : IntKind.i64.wrap (j - 1) = j - 1 := wrap_i64 (by omega) (by omega)
          simp only [go_sem, Nat.reduceAdd, Nat.reduceSub, Nat.reduceMul, Nat.reduceEqDiff, Nat.reduceLT, Nat.reduceLeDiff, Nat.reduceBEq, reduceIte, reduceCtorEq, Int.reduceToNat, Int.reduceLE, Int.reduceLT, Int.reduceBEq, Int.reduceBNe, hw4, hw5, hw6]
          refine ⟨by omega, ?_⟩
          rw [pc_snoc]
          (refine Cl.tr [some 0, some 1] [] rfl rfl (by simp only [go_sem, Nat.reduceAdd, Nat.reduceSub, Nat.reduceMul, Nat.reduceEqDiff, Nat.reduceLT, Nat.reduceLeDiff, Nat.reduceBEq, reduceIte, reduceCtorEq, Int.reduceToNat, Int.reduceLE, Int.reduceLT, Int.reduceBEq, Int.reduceBNe] <;> rfl) ?_; simp only [go_sem, Nat.reduceAdd, Nat.reduceSub, Nat.reduceMul, Nat.reduceEqDiff, Nat.reduceLT, Nat.reduceLeDiff, Nat.reduceBEq, reduceIte, reduceCtorEq, Int.reduceToNat, Int.reduceLE, Int.reduceLT, Int.reduceBEq, Int.reduceBNe])
          refine Cl.here ⟨⟨ps ++ [⟨20454, 29453760 + j, 29453760 + j + 1, ⟨#[]⟩⟩], j - 1, by omega, by simp; omega, ?_, by simp, rfl⟩, ?_⟩
          · intro p hp
            rcases List.mem_append.1 hp with hp | hp
            · exact hps p hp
            · rw [List.mem_singleton] at hp
              subst hp
              exact ⟨by unfold pcOk; simp only; omega, rfl⟩
          · simp only [go_sem, Nat.reduceAdd, Nat.reduceSub, Nat.reduceMul, Nat.reduceEqDiff, Nat.reduceLT, Nat.reduceLeDiff, Nat.reduceBEq, reduceIte, reduceCtorEq, Int.reduceToNat, Int.reduceLE, Int.reduceLT, Int.reduceBEq, Int.reduceBNe]
            omega
        · obtain rfl : j = 0 := by omega
          refine callC_det (mod_ok m 3 (by omega) (by omega)) rfl rfl ?_
          rw [hde]
          have hw7 : IntKind.i64.wrap (29553759 + d) = 29553759 + d := wrap_i64 (by omega) (by omega)
          simp only [go_sem, Nat.reduceAdd, Nat.reduceSub, Nat.reduceMul, Nat.reduceEqDiff, Nat.reduceLT, Nat.reduceLeDiff, Nat.reduceBEq, reduceIte, reduceCtorEq, Int.reduceToNat, Int.reduceLE, Int.reduceLT, Int.reduceBEq, Int.reduceBNe, hw7]
          have hpc := pcE_one hps
          have hpL := pcE_long (p := ⟨20454, 29453760, 29553759 + d, ⟨#[]⟩⟩) (by unfold pcOk; simp only; omega)
          simp only at hpL
          have w9 : IntKind.i64.wrap (29553759 + d - 29453760) = 29553759 + d - 29453760 := wrap_i64 (by omega) (by omega)
          by_cases h4 : 4096 < ps.length
          · rw [if_pos h4] at hpc
            refine callC_of [] [1] (by decide) rfl (by simp only [go_sem, Nat.reduceAdd, Nat.reduceSub, Nat.reduceMul, Nat.reduceEqDiff, Nat.reduceLT, Nat.reduceLeDiff, Nat.reduceBEq, reduceIte, reduceCtorEq, Int.reduceToNat, Int.reduceLE, Int.reduceLT, Int.reduceBEq, Int.reduceBNe] <;> rfl) (mkN1 ps (by omega) hpc) ?_
            rintro _ _ ⟨rfl, rfl⟩
            refine ⟨.inr ⟨rfl, rfl⟩, ?_⟩
            simp only [go_sem, Nat.reduceAdd, Nat.reduceSub, Nat.reduceMul, Nat.reduceEqDiff, Nat.reduceLT, Nat.reduceLeDiff, Nat.reduceBEq, reduceIte, reduceCtorEq, Int.reduceToNat, Int.reduceLE, Int.reduceLT, Int.reduceBEq, Int.reduceBNe]
            have n4 : ¬ (ps.length : Int) ≤ 4096 := by omega
            by_cases h5 : 100000 < 29553759 + d - 29453760
            · rw [if_pos h5] at hpL
              have n9 : ¬ 29553759 + d - 29453760 ≤ 100000 := by omega
              refine callC_of [] [2] (by decide) rfl (by simp only [go_sem, Nat.reduceAdd, Nat.reduceSub, Nat.reduceMul, Nat.reduceEqDiff, Nat.reduceLT, Nat.reduceLeDiff, Nat.reduceBEq, reduceIte, reduceCtorEq, Int.reduceToNat, Int.reduceLE, Int.reduceLT, Int.reduceBEq, Int.reduceBNe] <;> rfl) (mkN1 [⟨20454, 29453760, 29553759 + d, ⟨#[]⟩⟩] (by simp) hpL) ?_
              rintro _ _ ⟨rfl, rfl⟩
              refine ⟨.inr ⟨rfl, rfl⟩, ?_⟩
              simp only [go_sem, Nat.reduceAdd, Nat.reduceSub, Nat.reduceMul, Nat.reduceEqDiff, Nat.reduceLT, Nat.reduceLeDiff, Nat.reduceBEq, reduceIte, reduceCtorEq, Int.reduceToNat, Int.reduceLE, Int.reduceLT, Int.reduceBEq, Int.reduceBNe]
              by_cases h6 : 16 < ws.length
              · have hV := vld_lim ws (by omega) hws
                rw [if_pos h6] at hV
                have n6 : ¬ (ws.length : Int) ≤ 16 := by omega
                simp only [go_sem, Nat.reduceAdd, Nat.reduceSub, Nat.reduceMul, Nat.reduceEqDiff, Nat.reduceLT, Nat.reduceLeDiff, Nat.reduceBEq, reduceIte, reduceCtorEq, Int.reduceToNat, Int.reduceLE, Int.reduceLT, Int.reduceBEq, Int.reduceBNe, n6]
                refine callD_of [] [0] (by simp only [go_sem, Nat.reduceAdd, Nat.reduceSub, Nat.reduceMul, Nat.reduceEqDiff, Nat.reduceLT, Nat.reduceLeDiff, Nat.reduceBEq, reduceIte, reduceCtorEq, Int.reduceToNat, Int.reduceLE, Int.reduceLT, Int.reduceBEq, Int.reduceBNe]) (by decide) rfl (by simp only [go_sem, Nat.reduceAdd, Nat.reduceSub, Nat.reduceMul, Nat.reduceEqDiff, Nat.reduceLT, Nat.reduceLeDiff, Nat.reduceBEq, reduceIte, reduceCtorEq, Int.reduceToNat, Int.reduceLE, Int.reduceLT, Int.reduceBEq, Int.reduceBNe] <;> rfl) hV ?_
                rintro _ _ ⟨rfl, rfl⟩
                refine ⟨.inr ⟨rfl, rfl⟩, ?_⟩
                simp only [go_sem, Nat.reduceAdd, Nat.reduceSub, Nat.reduceMul, Nat.reduceEqDiff, Nat.reduceLT, Nat.reduceLeDiff, Nat.reduceBEq, reduceIte, reduceCtorEq, Int.reduceToNat, Int.reduceLE, Int.reduceLT, Int.reduceBEq, Int.reduceBNe, n4, w9, n9]
                refine callD_det sane_ok rfl rfl ?_
                simp only [go_sem, Nat.reduceAdd, Nat.reduceSub, Nat.reduceMul, Nat.reduceEqDiff, Nat.reduceLT, Nat.reduceLeDiff, Nat.reduceBEq, reduceIte, reduceCtorEq, Int.reduceToNat, Int.reduceLE, Int.reduceLT, Int.reduceBEq, Int.reduceBNe]
                exact Cl.fin rfl ⟨rfl, rfl⟩
              · have hV := vld_lim ws (by omega) hws
                rw [if_neg h6] at hV
                have n6 : (ws.length : Int) ≤ 16 := by omega
                simp only [go_sem, Nat.reduceAdd, Nat.reduceSub, Nat.reduceMul, Nat.reduceEqDiff, Nat.reduceLT, Nat.reduceLeDiff, Nat.reduceBEq, reduceIte, reduceCtorEq, Int.reduceToNat, Int.reduceLE, Int.reduceLT, Int.reduceBEq, Int.reduceBNe, n6]
                refine callD_of [] [0] (by simp only [go_sem, Nat.reduceAdd, Nat.reduceSub, Nat.reduceMul, Nat.reduceEqDiff, Nat.reduceLT, Nat.reduceLeDiff, Nat.reduceBEq, reduceIte, reduceCtorEq, Int.reduceToNat, Int.reduceLE, Int.reduceLT, Int.reduceBEq, Int.reduceBNe]) (by decide) rfl (by simp only [go_sem, Nat.reduceAdd, Nat.reduceSub, Nat.reduceMul, Nat.reduceEqDiff, Nat.reduceLT, Nat.reduceLeDiff, Nat.reduceBEq, reduceIte, reduceCtorEq, Int.reduceToNat, Int.reduceLE, Int.reduceLT, Int.reduceBEq, Int.reduceBNe] <;> rfl) hV ?_
                rintro _ _ ⟨rfl, rfl⟩
                refine ⟨.inr ⟨rfl, rfl⟩, ?_⟩
                simp only [go_sem, Nat.reduceAdd, Nat.reduceSub, Nat.reduceMul, Nat.reduceEqDiff, Nat.reduceLT, Nat.reduceLeDiff, Nat.reduceBEq, reduceIte, reduceCtorEq, Int.reduceToNat, Int.reduceLE, Int.reduceLT, Int.reduceBEq, Int.reduceBNe, n4, w9, n9]
                refine callD_det sane_ok rfl rfl ?_
                simp only [go_sem, Nat.reduceAdd, Nat.reduceSub, Nat.reduceMul, Nat.reduceEqDiff, Nat.reduceLT, Nat.reduceLeDiff, Nat.reduceBEq, reduceIte, reduceCtorEq, Int.reduceToNat, Int.reduceLE, Int.reduceLT, Int.reduceBEq, Int.reduceBNe]
                exact Cl.fin rfl ⟨rfl, rfl⟩
            · rw [if_neg h5] at hpL
              have n9 : 29553759 + d - 29453760 ≤ 100000 := by omega
              refine callC_of [] [2] (by decide) rfl (by simp only [go_sem, Nat.reduceAdd, Nat.reduceSub, Nat.reduceMul, Nat.reduceEqDiff, Nat.reduceLT, Nat.reduceLeDiff, Nat.reduceBEq, reduceIte, reduceCtorEq, Int.reduceToNat, Int.reduceLE, Int.reduceLT, Int.reduceBEq, Int.reduceBNe] <;> rfl) (mkN0 [⟨20454, 29453760, 29553759 + d, ⟨#[]⟩⟩] (by simp) hpL) ?_
              rintro _ _ ⟨rfl, rfl⟩
              refine ⟨.inr ⟨rfl, rfl⟩, ?_⟩
              simp only [go_sem, Nat.reduceAdd, Nat.reduceSub, Nat.reduceMul, Nat.reduceEqDiff, Nat.reduceLT, Nat.reduceLeDiff, Nat.reduceBEq, reduceIte, reduceCtorEq, Int.reduceToNat, Int.reduceLE, Int.reduceLT, Int.reduceBEq, Int.reduceBNe]
              by_cases h6 : 16 < ws.length
              · have hV := vld_lim ws (by omega) hws
                rw [if_pos h6] at hV
                have n6 : ¬ (ws.length : Int) ≤ 16 := by omega
                simp only [go_sem, Nat.reduceAdd, Nat.reduceSub, Nat.reduceMul, Nat.reduceEqDiff, Nat.reduceLT, Nat.reduceLeDiff, Nat.reduceBEq, reduceIte, reduceCtorEq, Int.reduceToNat, Int.reduceLE, Int.reduceLT, Int.reduceBEq, Int.reduceBNe, n6]
                refine callD_of [] [0] (by simp only [go_sem, Nat.reduceAdd, Nat.reduceSub, Nat.reduceMul, Nat.reduceEqDiff, Nat.reduceLT, Nat.reduceLeDiff, Nat.reduceBEq, reduceIte, reduceCtorEq, Int.reduceToNat, Int.reduceLE, Int.reduceLT, Int.reduceBEq, Int.reduceBNe]) (by decide) rfl (by simp only [go_sem, Nat.reduceAdd, Nat.reduceSub, Nat.reduceMul, Nat.reduceEqDiff, Nat.reduceLT, Nat.reduceLeDiff, Nat.reduceBEq, reduceIte, reduceCtorEq, Int.reduceToNat, Int.reduceLE, Int.reduceLT, Int.reduceBEq, Int.reduceBNe] <;> rfl) hV ?_
                rintro _ _ ⟨rfl, rfl⟩
                refine ⟨.inr ⟨rfl, rfl⟩, ?_⟩
                simp only [go_sem, Nat.reduceAdd, Nat.reduceSub, Nat.reduceMul, Nat.reduceEqDiff, Nat.reduceLT, Nat.reduceLeDiff, Nat.reduceBEq, reduceIte, reduceCtorEq, Int.reduceToNat, Int.reduceLE, Int.reduceLT, Int.reduceBEq, Int.reduceBNe, n4, w9, n9]
                refine callD_det sane_ok rfl rfl ?_
                simp only [go_sem, Nat.reduceAdd, Nat.reduceSub, Nat.reduceMul, Nat.reduceEqDiff, Nat.reduceLT, Nat.reduceLeDiff, Nat.reduceBEq, reduceIte, reduceCtorEq, Int.reduceToNat, Int.reduceLE, Int.reduceLT, Int.reduceBEq, Int.reduceBNe]
                exact Cl.fin rfl ⟨rfl, rfl⟩
              · have hV := vld_lim ws (by omega) hws
                rw [if_neg h6] at hV
                have n6 : (ws.length : Int) ≤ 16 := by omega
                simp only [go_sem, Nat.reduceAdd, Nat.reduceSub, Nat.reduceMul, Nat.reduceEqDiff, Nat.reduceLT, Nat.reduceLeDiff, Nat.reduceBEq, reduceIte, reduceCtorEq, Int.reduceToNat, Int.reduceLE, Int.reduceLT, Int.reduceBEq, Int.reduceBNe, n6]
                refine callD_of [] [0] (by simp only [go_sem, Nat.reduceAdd, Nat.reduceSub, Nat.reduceMul, Nat.reduceEqDiff, Nat.reduceLT, Nat.reduceLeDiff, Nat.reduceBEq, reduceIte, reduceCtorEq, Int.reduceToNat, Int.reduceLE, Int.reduceLT, Int.reduceBEq, Int.reduceBNe]) (by decide) rfl (by simp only [go_sem, Nat.reduceAdd, Nat.reduceSub, Nat.reduceMul, Nat.reduceEqDiff, Nat.reduceLT, Nat.reduceLeDiff, Nat.reduceBEq, reduceIte, reduceCtorEq, Int.reduceToNat, Int.reduceLE, Int.reduceLT, Int.reduceBEq, Int.reduceBNe] <;> rfl) hV ?_
                rintro _ _ ⟨rfl, rfl⟩
                refine ⟨.inr ⟨rfl, rfl⟩, ?_⟩
                simp only [go_sem, Nat.reduceAdd, Nat.reduceSub, Nat.reduceMul, Nat.reduceEqDiff, Nat.reduceLT, Nat.reduceLeDiff, Nat.reduceBEq, reduceIte, reduceCtorEq, Int.reduceToNat, Int.reduceLE, Int.reduceLT, Int.reduceBEq, Int.reduceBNe, n4, w9, n9]
                refine callD_det sane_ok rfl rfl ?_
                simp only [go_sem, Nat.reduceAdd, Nat.reduceSub, Nat.reduceMul, Nat.reduceEqDiff, Nat.reduceLT, Nat.reduceLeDiff, Nat.reduceBEq, reduceIte, reduceCtorEq, Int.reduceToNat, Int.reduceLE, Int.reduceLT, Int.reduceBEq, Int.reduceBNe]
                exact Cl.fin rfl ⟨rfl, rfl⟩
          · rw [if_neg h4] at hpc
            refine callC_of [] [1] (by decide) rfl (by simp only [go_sem, Nat.reduceAdd, Nat.reduceSub, Nat.reduceMul, Nat.reduceEqDiff, Nat.reduceLT, Nat.reduceLeDiff, Nat.reduceBEq, reduceIte, reduceCtorEq, Int.reduceToNat, Int.reduceLE, Int.reduceLT, Int.reduceBEq, Int.reduceBNe] <;> rfl) (mkN0 ps (by omega) hpc) ?_
            rintro _ _ ⟨rfl, rfl⟩
            refine ⟨.inr ⟨rfl, rfl⟩, ?_⟩
            simp only [go_sem, Nat.reduceAdd, Nat.reduceSub, Nat.reduceMul, Nat.reduceEqDiff, Nat.reduceLT, Nat.reduceLeDiff, Nat.reduceBEq, reduceIte, reduceCtorEq, Int.reduceToNat, Int.reduceLE, Int.reduceLT, Int.reduceBEq, Int.reduceBNe]
            have n4 : (ps.length : Int) ≤ 4096 := by omega
            by_cases h5 : 100000 < 29553759 + d - 29453760
            · rw [if_pos h5] at hpL
              have n9 : ¬ 29553759 + d - 29453760 ≤ 100000 := by omega
              refine callC_of [] [2] (by decide) rfl (by simp only [go_sem, Nat.reduceAdd, Nat.reduceSub, Nat.reduceMul, Nat.reduceEqDiff, Nat.reduceLT, Nat.reduceLeDiff, Nat.reduceBEq, reduceIte, reduceCtorEq, Int.reduceToNat, Int.reduceLE, Int.reduceLT, Int.reduceBEq, Int.reduceBNe] <;> rfl) (mkN1 [⟨20454, 29453760, 29553759 + d, ⟨#[]⟩⟩] (by simp) hpL) ?_
              rintro _ _ ⟨rfl, rfl⟩
              refine ⟨.inr ⟨rfl, rfl⟩, ?_⟩
              simp only [go_sem, Nat.reduceAdd, Nat.reduceSub, Nat.reduceMul, Nat.reduceEqDiff, Nat.reduceLT, Nat.reduceLeDiff, Nat.reduceBEq, reduceIte, reduceCtorEq, Int.reduceToNat, Int.reduceLE, Int.reduceLT, Int.reduceBEq, Int.reduceBNe]
              by_cases h6 : 16 < ws.length
              · have hV := vld_lim ws (by omega) hws
                rw [if_pos h6] at hV
                have n6 : ¬ (ws.length : Int) ≤ 16 := by omega
                simp only [go_sem, Nat.reduceAdd, Nat.reduceSub, Nat.reduceMul, Nat.reduceEqDiff, Nat.reduceLT, Nat.reduceLeDiff, Nat.reduceBEq, reduceIte, reduceCtorEq, Int.reduceToNat, Int.reduceLE, Int.reduceLT, Int.reduceBEq, Int.reduceBNe, n6]
                refine callD_of [] [0] (by simp only [go_sem, Nat.reduceAdd, Nat.reduceSub, Nat.reduceMul, Nat.reduceEqDiff, Nat.reduceLT, Nat.reduceLeDiff, Nat.reduceBEq, reduceIte, reduceCtorEq, Int.reduceToNat, Int.reduceLE, Int.reduceLT, Int.reduceBEq, Int.reduceBNe]) (by decide) rfl (by simp only [go_sem, Nat.reduceAdd, Nat.reduceSub, Nat.reduceMul, Nat.reduceEqDiff, Nat.reduceLT, Nat.reduceLeDiff, Nat.reduceBEq, reduceIte, reduceCtorEq, Int.reduceToNat, Int.reduceLE, Int.reduceLT, Int.reduceBEq, Int.reduceBNe] <;> rfl) hV ?_
                rintro _ _ ⟨rfl, rfl⟩
                refine ⟨.inr ⟨rfl, rfl⟩, ?_⟩
                simp only [go_sem, Nat.reduceAdd, Nat.reduceSub, Nat.reduceMul, Nat.reduceEqDiff, Nat.reduceLT, Nat.reduceLeDiff, Nat.reduceBEq, reduceIte, reduceCtorEq, Int.reduceToNat, Int.reduceLE, Int.reduceLT, Int.reduceBEq, Int.reduceBNe, n4, w9, n9]
                refine callD_det sane_ok rfl rfl ?_
                simp only [go_sem, Nat.reduceAdd, Nat.reduceSub, Nat.reduceMul, Nat.reduceEqDiff, Nat.reduceLT, Nat.reduceLeDiff, Nat.reduceBEq, reduceIte, reduceCtorEq, Int.reduceToNat, Int.reduceLE, Int.reduceLT, Int.reduceBEq, Int.reduceBNe]
                exact Cl.fin rfl ⟨rfl, rfl⟩
              · have hV := vld_lim ws (by omega) hws
                rw [if_neg h6] at hV
                have n6 : (ws.length : Int) ≤ 16 := by omega
                simp only [go_sem, Nat.reduceAdd, Nat.reduceSub, Nat.reduceMul, Nat.reduceEqDiff, Nat.reduceLT, Nat.reduceLeDiff, Nat.reduceBEq, reduceIte, reduceCtorEq, Int.reduceToNat, Int.reduceLE, Int.reduceLT, Int.reduceBEq, Int.reduceBNe, n6]
                refine callD_of [] [0] (by simp only [go_sem, Nat.reduceAdd, Nat.reduceSub, Nat.reduceMul, Nat.reduceEqDiff, Nat.reduceLT, Nat.reduceLeDiff, Nat.reduceBEq, reduceIte, reduceCtorEq, Int.reduceToNat, Int.reduceLE, Int.reduceLT, Int.reduceBEq, Int.reduceBNe]) (by decide) rfl (by simp only [go_sem, Nat.reduceAdd, Nat.reduceSub, Nat.reduceMul, Nat.reduceEqDiff, Nat.reduceLT, Nat.reduceLeDiff, Nat.reduceBEq, reduceIte, reduceCtorEq, Int.reduceToNat, Int.reduceLE, Int.reduceLT, Int.reduceBEq, Int.reduceBNe] <;> rfl) hV ?_
                rintro _ _ ⟨rfl, rfl⟩
                refine ⟨.inr ⟨rfl, rfl⟩, ?_⟩
                simp only [go_sem, Nat.reduceAdd, Nat.reduceSub, Nat.reduceMul, Nat.reduceEqDiff, Nat.reduceLT, Nat.reduceLeDiff, Nat.reduceBEq, reduceIte, reduceCtorEq, Int.reduceToNat, Int.reduceLE, Int.reduceLT, Int.reduceBEq, Int.reduceBNe, n4, w9, n9]
                refine callD_det sane_ok rfl rfl ?_
                simp only [go_sem, Nat.reduceAdd, Nat.reduceSub, Nat.reduceMul, Nat.reduceEqDiff, Nat.reduceLT, Nat.reduceLeDiff, Nat.reduceBEq, reduceIte, reduceCtorEq, Int.reduceToNat, Int.reduceLE, Int.reduceLT, Int.reduceBEq, Int.reduceBNe]
                exact Cl.fin rfl ⟨rfl, rfl⟩
            · rw [if_neg h5] at hpL
              have n9 : 29553759 + d - 29453760 ≤ 100000 := by omega
              refine callC_of [] [2] (by decide) rfl (by simp only [go_sem, Nat.reduceAdd, Nat.reduceSub, Nat.reduceMul, Nat.reduceEqDiff, Nat.reduceLT, Nat.reduceLeDiff, Nat.reduceBEq, reduceIte, reduceCtorEq, Int.reduceToNat, Int.reduceLE, Int.reduceLT, Int.reduceBEq, Int.reduceBNe] <;> rfl) (mkN0 [⟨20454, 29453760, 29553759 + d, ⟨#[]⟩⟩] (by simp) hpL) ?_
              rintro _ _ ⟨rfl, rfl⟩
              refine ⟨.inr ⟨rfl, rfl⟩, ?_⟩
              simp only [go_sem, Nat.reduceAdd, Nat.reduceSub, Nat.reduceMul, Nat.reduceEqDiff, Nat.reduceLT, Nat.reduceLeDiff, Nat.reduceBEq, reduceIte, reduceCtorEq, Int.reduceToNat, Int.reduceLE, Int.reduceLT, Int.reduceBEq, Int.reduceBNe]
              by_cases h6 : 16 < ws.length
              · have hV := vld_lim ws (by omega) hws
                rw [if_pos h6] at hV
                have n6 : ¬ (ws.length : Int) ≤ 16 := by omega
                simp only [go_sem, Nat.reduceAdd, Nat.reduceSub, Nat.reduceMul, Nat.reduceEqDiff, Nat.reduceLT, Nat.reduceLeDiff, Nat.reduceBEq, reduceIte, reduceCtorEq, Int.reduceToNat, Int.reduceLE, Int.reduceLT, Int.reduceBEq, Int.reduceBNe, n6]
                refine callD_of [] [0] (by simp only [go_sem, Nat.reduceAdd, Nat.reduceSub, Nat.reduceMul, Nat.reduceEqDiff, Nat.reduceLT, Nat.reduceLeDiff, Nat.reduceBEq, reduceIte, reduceCtorEq, Int.reduceToNat, Int.reduceLE, Int.reduceLT, Int.reduceBEq, Int.reduceBNe]) (by decide) rfl (by simp only [go_sem, Nat.reduceAdd, Nat.reduceSub, Nat.reduceMul, Nat.reduceEqDiff, Nat.reduceLT, Nat.reduceLeDiff, Nat.reduceBEq, reduceIte, reduceCtorEq, Int.reduceToNat, Int.reduceLE, Int.reduceLT, Int.reduceBEq, Int.reduceBNe] <;> rfl) hV ?_
                rintro _ _ ⟨rfl, rfl⟩
                refine ⟨.inr ⟨rfl, rfl⟩, ?_⟩
                simp only [go_sem, Nat.reduceAdd, Nat.reduceSub, Nat.reduceMul, Nat.reduceEqDiff, Nat.reduceLT, Nat.reduceLeDiff, Nat.reduceBEq, reduceIte, reduceCtorEq, Int.reduceToNat, Int.reduceLE, Int.reduceLT, Int.reduceBEq, Int.reduceBNe, n4, w9, n9]
                refine callD_det sane_ok rfl rfl ?_
                simp only [go_sem, Nat.reduceAdd, Nat.reduceSub, Nat.reduceMul, Nat.reduceEqDiff, Nat.reduceLT, Nat.reduceLeDiff, Nat.reduceBEq, reduceIte, reduceCtorEq, Int.reduceToNat, Int.reduceLE, Int.reduceLT, Int.reduceBEq, Int.reduceBNe]
                exact Cl.fin rfl ⟨rfl, rfl⟩
              · have hV := vld_lim ws (by omega) hws
                rw [if_neg h6] at hV
                have n6 : (ws.length : Int) ≤ 16 := by omega
                simp only [go_sem, Nat.reduceAdd, Nat.reduceSub, Nat.reduceMul, Nat.reduceEqDiff, Nat.reduceLT, Nat.reduceLeDiff, Nat.reduceBEq, reduceIte, reduceCtorEq, Int.reduceToNat, Int.reduceLE, Int.reduceLT, Int.reduceBEq, Int.reduceBNe, n6]
                refine callD_of [] [0] (by simp only [go_sem, Nat.reduceAdd, Nat.reduceSub, Nat.reduceMul, Nat.reduceEqDiff, Nat.reduceLT, Nat.reduceLeDiff, Nat.reduceBEq, reduceIte, reduceCtorEq, Int.reduceToNat, Int.reduceLE, Int.reduceLT, Int.reduceBEq, Int.reduceBNe]) (by decide) rfl (by simp only [go_sem, Nat.reduceAdd, Nat.reduceSub, Nat.reduceMul, Nat.reduceEqDiff, Nat.reduceLT, Nat.reduceLeDiff, Nat.reduceBEq, reduceIte, reduceCtorEq, Int.reduceToNat, Int.reduceLE, Int.reduceLT, Int.reduceBEq, Int.reduceBNe] <;> rfl) hV ?_
                rintro _ _ ⟨rfl, rfl⟩
                refine ⟨.inr ⟨rfl, rfl⟩, ?_⟩
                simp only [go_sem, Nat.reduceAdd, Nat.reduceSub, Nat.reduceMul, Nat.reduceEqDiff, Nat.reduceLT, Nat.reduceLeDiff, Nat.reduceBEq, reduceIte, reduceCtorEq, Int.reduceToNat, Int.reduceLE, Int.reduceLT, Int.reduceBEq, Int.reduceBNe, n4, w9, n9]
                refine callD_det sane_ok rfl rfl ?_
                simp only [go_sem, Nat.reduceAdd, Nat.reduceSub, Nat.reduceMul, Nat.reduceEqDiff, Nat.reduceLT, Nat.reduceLeDiff, Nat.reduceBEq, reduceIte, reduceCtorEq, Int.reduceToNat, Int.reduceLE, Int.reduceLT, Int.reduceBEq, Int.reduceBNe]
                exact Cl.fin rfl ⟨rfl, rfl⟩

end Go.Proofs.YtefemdpicjgkeaaDoor
