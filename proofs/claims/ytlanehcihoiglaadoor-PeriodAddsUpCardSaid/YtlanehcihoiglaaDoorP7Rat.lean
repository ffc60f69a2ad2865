/- Fractions of small natural numbers. -/
import Derived.Test.YtlanehcihoiglaaDoorP3Gen
set_option linter.unusedSimpArgs false
set_option linter.unusedVariables false
set_option linter.unusedSectionVars false
namespace Go.Proofs.YtlanehcihoiglaaDoor
open Go Go.Abs
set_option linter.unusedSimpArgs false
set_option linter.unusedVariables false

theorem tmod_nat (a b : Nat) : ((a : Int).tmod (b : Int)) = ((a % b : Nat) : Int) := by
  rw [Int.tmod_eq_emod_of_nonneg (by omega)]; rfl
theorem tdiv_nat (a b : Nat) : ((a : Int).tdiv (b : Int)) = ((a / b : Nat) : Int) := by
  rw [Int.tdiv_eq_ediv_of_nonneg (by omega)]; rfl
theorem gcd_ok (a b : Nat) (ha : a < 9000000000000000000) (hb : b < 9000000000000000000) : AFn Tryd.prog 70 [.int .u64 a, .int .u64 b] [] (fun v rs => v = .int .u64 (Nat.gcd a b : Nat) ∧ rs = []) := by
  refine afn Tryd.func70 a70_ok (by simp [a70]) ?_
  simp only [go_sem, Nat.reduceAdd, Nat.reduceSub, Nat.reduceMul, Nat.reduceEqDiff, Nat.reduceLT, Nat.reduceLeDiff, Nat.reduceBEq, reduceIte, reduceCtorEq, Int.reduceToNat, Int.reduceLE, Int.reduceLT, Int.reduceBEq, Int.reduceBNe, a70, a70r0, a70r1, a70r2, a70r3]
  have hend : True := trivial
  refine avc_loop (fun env rows => ∃ x y : Nat, Nat.gcd x y = Nat.gcd a b ∧ x < 9000000000000000000 ∧ y < 9000000000000000000 ∧ env = [(0, .int .u64 x), (1, .int .u64 y)] ∧ rows = [])
    (fun env _ => match slot env 1 with | .int _ j => j.toNat | _ => 0) ?_ ?_
  · exact Cl.here ⟨a, b, rfl, ha, hb, rfl, rfl⟩
  rintro env rows ⟨x, y, hg, hx, hy, rfl, rfl⟩
  by_cases h0 : y = 0
  · subst h0
    have hb0 : (((0 : Nat) : Int) != 0) = false := rfl
    simp only [go_sem, Nat.reduceAdd, Nat.reduceSub, Nat.reduceMul, Nat.reduceEqDiff, Nat.reduceLT, Nat.reduceLeDiff, Nat.reduceBEq, reduceIte, reduceCtorEq, Int.reduceToNat, Int.reduceLE, Int.reduceLT, Int.reduceBEq, Int.reduceBNe, a70, a70r0, a70r1, a70r2, a70r3, hb0]
    rw [Nat.gcd_zero_right] at hg
    exact Cl.fin rfl ⟨by rw [hg], rfl⟩
  · have hb0 : ((y : Int) != 0) = true := by simp; omega
    simp only [go_sem, Nat.reduceAdd, Nat.reduceSub, Nat.reduceMul, Nat.reduceEqDiff, Nat.reduceLT, Nat.reduceLeDiff, Nat.reduceBEq, reduceIte, reduceCtorEq, Int.reduceToNat, Int.reduceLE, Int.reduceLT, Int.reduceBEq, Int.reduceBNe, a70, a70r0, a70r1, a70r2, a70r3, hb0]
    rw [tmod_nat]
    refine ⟨by omega, ?_⟩
    have hlt := Nat.mod_lt x (Nat.pos_of_ne_zero h0)
    refine Cl.here ⟨⟨y, x % y, ?_, hy, by omega, rfl, rfl⟩, ?_⟩
    · rw [← hg, Nat.gcd_comm x y, Nat.gcd_rec y x, Nat.gcd_comm]
    · simp only [go_sem, Nat.reduceAdd, Nat.reduceSub, Nat.reduceMul, Nat.reduceEqDiff, Nat.reduceLT, Nat.reduceLeDiff, Nat.reduceBEq, reduceIte, reduceCtorEq, Int.reduceToNat, Int.reduceLE, Int.reduceLT, Int.reduceBEq, Int.reduceBNe]
      omega
theorem common_ok (a b : Nat) (ha : a < 9000000000000000000) (hb : b < 9000000000000000000) : AFn Tryd.prog 59 [.int .u64 a, .int .u64 b] [] (fun v rs => v = .int .u64 (Nat.gcd a b : Nat) ∧ rs = []) := by
  refine afn Tryd.func59 a59_ok (by simp [a59]) ?_
  simp only [go_sem, Nat.reduceAdd, Nat.reduceSub, Nat.reduceMul, Nat.reduceEqDiff, Nat.reduceLT, Nat.reduceLeDiff, Nat.reduceBEq, reduceIte, reduceCtorEq, Int.reduceToNat, Int.reduceLE, Int.reduceLT, Int.reduceBEq, Int.reduceBNe, a59, a59r0, a59r1, a59r2, a59r3]
  have hend : True := trivial
  refine avc_loop (fun env rows => ∃ x y : Nat, Nat.gcd x y = Nat.gcd a b ∧ x < 9000000000000000000 ∧ y < 9000000000000000000 ∧ env = [(0, .int .u64 x), (1, .int .u64 y)] ∧ rows = [])
    (fun env _ => match slot env 1 with | .int _ j => j.toNat | _ => 0) ?_ ?_
  · exact Cl.here ⟨a, b, rfl, ha, hb, rfl, rfl⟩
  rintro env rows ⟨x, y, hg, hx, hy, rfl, rfl⟩
  by_cases h0 : y = 0
  · subst h0
    have hb0 : (((0 : Nat) : Int) != 0) = false := rfl
    simp only [go_sem, Nat.reduceAdd, Nat.reduceSub, Nat.reduceMul, Nat.reduceEqDiff, Nat.reduceLT, Nat.reduceLeDiff, Nat.reduceBEq, reduceIte, reduceCtorEq, Int.reduceToNat, Int.reduceLE, Int.reduceLT, Int.reduceBEq, Int.reduceBNe, a59, a59r0, a59r1, a59r2, a59r3, hb0]
    rw [Nat.gcd_zero_right] at hg
    exact Cl.fin rfl ⟨by rw [hg], rfl⟩
  · have hb0 : ((y : Int) != 0) = true := by simp; omega
    simp only [go_sem, Nat.reduceAdd, Nat.reduceSub, Nat.reduceMul, Nat.reduceEqDiff, Nat.reduceLT, Nat.reduceLeDiff, Nat.reduceBEq, reduceIte, reduceCtorEq, Int.reduceToNat, Int.reduceLE, Int.reduceLT, Int.reduceBEq, Int.reduceBNe, a59, a59r0, a59r1, a59r2, a59r3, hb0]
    rw [tmod_nat]
    refine ⟨by omega, ?_⟩
    have hlt := Nat.mod_lt x (Nat.pos_of_ne_zero h0)
    refine Cl.here ⟨⟨y, x % y, ?_, hy, by omega, rfl, rfl⟩, ?_⟩
    · rw [← hg, Nat.gcd_comm x y, Nat.gcd_rec y x, Nat.gcd_comm]
    · simp only [go_sem, Nat.reduceAdd, Nat.reduceSub, Nat.reduceMul, Nat.reduceEqDiff, Nat.reduceLT, Nat.reduceLeDiff, Nat.reduceBEq, reduceIte, reduceCtorEq, Int.reduceToNat, Int.reduceLE, Int.reduceLT, Int.reduceBEq, Int.reduceBNe]
      omega
theorem magnitude_ok (n : Nat) (h : n < 9000000000000000000) : AFn Tryd.prog 57 [.int .i64 n] [] (fun v rs => v = .int .u64 n ∧ rs = []) := by
  refine afn Tryd.func57 a57_ok (by simp [a57]) ?_
  have h0 : ¬ (n : Int) < 0 := by omega
  simp only [go_sem, Nat.reduceAdd, Nat.reduceSub, Nat.reduceMul, Nat.reduceEqDiff, Nat.reduceLT, Nat.reduceLeDiff, Nat.reduceBEq, reduceIte, reduceCtorEq, Int.reduceToNat, Int.reduceLE, Int.reduceLT, Int.reduceBEq, Int.reduceBNe, a57, a57r0, a57r1, a57r2, a57r3, h0]
  rw [wrap_u64 (by omega) (by omega)]
  exact Cl.fin rfl ⟨rfl, rfl⟩
theorem size_ok (n : Nat) (h : n < 9000000000000000000) : AFn Tryd.prog 60 [.int .i64 n] [] (fun v rs => v = .int .u64 n ∧ rs = []) := by
  refine afn Tryd.func60 a60_ok (by simp [a60]) ?_
  have h0 : ¬ (n : Int) < 0 := by omega
  simp only [go_sem, Nat.reduceAdd, Nat.reduceSub, Nat.reduceMul, Nat.reduceEqDiff, Nat.reduceLT, Nat.reduceLeDiff, Nat.reduceBEq, reduceIte, reduceCtorEq, Int.reduceToNat, Int.reduceLE, Int.reduceLT, Int.reduceBEq, Int.reduceBNe, a60, a60r0, a60r1, a60r2, a60r3, h0]
  rw [wrap_u64 (by omega) (by omega)]
  exact Cl.fin rfl ⟨rfl, rfl⟩
theorem fit_ok (n d : Nat) (hn : n ≤ 1000000000000) (hd : d ≤ 1000000) (hd0 : 0 < d) : AFn Tryd.prog 56 [.bool false, .int .u64 n, .int .u64 d] [] (fun v rs => v = .tup [.agg [.int .i64 (n / Nat.gcd n d : Nat), .int .i64 (d / Nat.gcd n d : Nat)], .int .i64 0] ∧ rs = []) := by
  refine afn Tryd.func56 a56_ok (by simp [a56]) ?_
  have hg := Nat.gcd_pos_of_pos_right n hd0
  simp only [go_sem, Nat.reduceAdd, Nat.reduceSub, Nat.reduceMul, Nat.reduceEqDiff, Nat.reduceLT, Nat.reduceLeDiff, Nat.reduceBEq, reduceIte, reduceCtorEq, Int.reduceToNat, Int.reduceLE, Int.reduceLT, Int.reduceBEq, Int.reduceBNe, a56, a56r0, a56r1, a56r2, a56r3, a56r4, a56r5, a56r6, a56r7, a56r8]
  refine callC_det (gcd_ok n d (by omega) (by omega)) rfl rfl ?_
  generalize Nat.gcd n d = g at *
  have h1 : n / g ≤ n := Nat.div_le_self _ _
  have h2 : d / g ≤ d := Nat.div_le_self _ _
  simp only [go_sem, Nat.reduceAdd, Nat.reduceSub, Nat.reduceMul, Nat.reduceEqDiff, Nat.reduceLT, Nat.reduceLeDiff, Nat.reduceBEq, reduceIte, reduceCtorEq, Int.reduceToNat, Int.reduceLE, Int.reduceLT, Int.reduceBEq, Int.reduceBNe, tdiv_nat]
  generalize n / g = p at *
  generalize d / g = q at *
  rw [wrap_u64 (x := (p : Int)) (by omega) (by omega), wrap_u64 (x := (q : Int)) (by omega) (by omega)]
  have c1 : ¬ (p : Int) > 1000000000000 := by omega
  have c2 : ¬ (q : Int) > 1000000 := by omega
  refine ⟨by omega, by omega, ?_⟩
  simp only [go_sem, Nat.reduceAdd, Nat.reduceSub, Nat.reduceMul, Nat.reduceEqDiff, Nat.reduceLT, Nat.reduceLeDiff, Nat.reduceBEq, reduceIte, reduceCtorEq, Int.reduceToNat, Int.reduceLE, Int.reduceLT, Int.reduceBEq, Int.reduceBNe, c1, c2]
  rw [wrap_i64 (x := (p : Int)) (by omega) (by omega), wrap_i64 (x := (q : Int)) (by omega) (by omega)]
  exact Cl.fin rfl ⟨rfl, rfl⟩
theorem ratNew_ok (n d : Nat) (hn : n ≤ 1000000000000) (hd : d ≤ 1000000) (hd0 : 0 < d) : AFn Tryd.prog 38 [.int .i64 n, .int .i64 d] [] (fun v rs => v = .tup [.agg [.int .i64 (n / Nat.gcd n d : Nat), .int .i64 (d / Nat.gcd n d : Nat)], .int .i64 0] ∧ rs = []) := by
  refine afn Tryd.func38 a38_ok (by simp [a38]) ?_
  have c0 : ((d : Int) == 0) = false := by simp; omega
  have c1 : ¬ (n : Int) < 0 := by omega
  have c2 : ¬ (d : Int) < 0 := by omega
  have c3 : ((false : Bool) == false) = true := rfl
  simp only [go_sem, Nat.reduceAdd, Nat.reduceSub, Nat.reduceMul, Nat.reduceEqDiff, Nat.reduceLT, Nat.reduceLeDiff, Nat.reduceBEq, reduceIte, reduceCtorEq, Int.reduceToNat, Int.reduceLE, Int.reduceLT, Int.reduceBEq, Int.reduceBNe, a38, a38r0, a38r1, a38r2, a38r3, c0, c1, c2, c3]
  refine callC_det (magnitude_ok n (by omega)) rfl rfl ?_
  simp only [go_sem, Nat.reduceAdd, Nat.reduceSub, Nat.reduceMul, Nat.reduceEqDiff, Nat.reduceLT, Nat.reduceLeDiff, Nat.reduceBEq, reduceIte, reduceCtorEq, Int.reduceToNat, Int.reduceLE, Int.reduceLT, Int.reduceBEq, Int.reduceBNe]
  refine callC_det (magnitude_ok d (by omega)) rfl rfl ?_
  simp only [go_sem, Nat.reduceAdd, Nat.reduceSub, Nat.reduceMul, Nat.reduceEqDiff, Nat.reduceLT, Nat.reduceLeDiff, Nat.reduceBEq, reduceIte, reduceCtorEq, Int.reduceToNat, Int.reduceLE, Int.reduceLT, Int.reduceBEq, Int.reduceBNe]
  refine callC_det (fit_ok n d hn hd hd0) rfl rfl ?_
  simp only [go_sem, Nat.reduceAdd, Nat.reduceSub, Nat.reduceMul, Nat.reduceEqDiff, Nat.reduceLT, Nat.reduceLeDiff, Nat.reduceBEq, reduceIte, reduceCtorEq, Int.reduceToNat, Int.reduceLE, Int.reduceLT, Int.reduceBEq, Int.reduceBNe]
  exact Cl.fin rfl ⟨rfl, rfl⟩
theorem ratZero_ok (n : Nat) : AFn Tryd.prog 38 [.int .i64 n, .int .i64 0] [] (fun v rs => v = .tup [.agg [.int .i64 0, .int .i64 0], .int .i64 5] ∧ rs = []) := by
  refine afn Tryd.func38 a38_ok (by simp [a38]) ?_
  simp only [go_sem, Nat.reduceAdd, Nat.reduceSub, Nat.reduceMul, Nat.reduceEqDiff, Nat.reduceLT, Nat.reduceLeDiff, Nat.reduceBEq, reduceIte, reduceCtorEq, Int.reduceToNat, Int.reduceLE, Int.reduceLT, Int.reduceBEq, Int.reduceBNe, a38, a38r0, a38r1, a38r2, a38r3]
  exact Cl.fin rfl ⟨rfl, rfl⟩
theorem rNew_ok (n d : Nat) (hn : n ≤ 1000000000000) (hd : d ≤ 1000000) (hd0 : 0 < d) : AFn Tryd.prog 41 [.int .i64 n, .int .i64 d] [] (fun v rs => v = .tup [.agg [.int .i64 (n / Nat.gcd n d : Nat), .int .i64 (d / Nat.gcd n d : Nat)], .int .i64 0] ∧ rs = []) := by
  refine afn Tryd.func41 a41_ok (by simp [a41]) ?_
  have c0 : ((d : Int) == 0) = false := by simp; omega
  have c1 : ¬ (n : Int) < 0 := by omega
  have c2 : ¬ (d : Int) < 0 := by omega
  have c3 : ((false : Bool) == false) = true := rfl
  simp only [go_sem, Nat.reduceAdd, Nat.reduceSub, Nat.reduceMul, Nat.reduceEqDiff, Nat.reduceLT, Nat.reduceLeDiff, Nat.reduceBEq, reduceIte, reduceCtorEq, Int.reduceToNat, Int.reduceLE, Int.reduceLT, Int.reduceBEq, Int.reduceBNe, a41, a41r0, a41r1, a41r2, a41r3, a41r4, a41r5, a41r6, a41r7, a41r8, a41r9, a41r10, a41r11, c0]
  refine callC_det (size_ok n (by omega)) rfl rfl ?_
  simp only [go_sem, Nat.reduceAdd, Nat.reduceSub, Nat.reduceMul, Nat.reduceEqDiff, Nat.reduceLT, Nat.reduceLeDiff, Nat.reduceBEq, reduceIte, reduceCtorEq, Int.reduceToNat, Int.reduceLE, Int.reduceLT, Int.reduceBEq, Int.reduceBNe]
  refine callC_det (size_ok d (by omega)) rfl rfl ?_
  simp only [go_sem, Nat.reduceAdd, Nat.reduceSub, Nat.reduceMul, Nat.reduceEqDiff, Nat.reduceLT, Nat.reduceLeDiff, Nat.reduceBEq, reduceIte, reduceCtorEq, Int.reduceToNat, Int.reduceLE, Int.reduceLT, Int.reduceBEq, Int.reduceBNe]
  have hg := Nat.gcd_pos_of_pos_right n hd0
  refine callC_det (common_ok n d (by omega) (by omega)) rfl rfl ?_
  generalize Nat.gcd n d = g at *
  have h1 : n / g ≤ n := Nat.div_le_self _ _
  have h2 : d / g ≤ d := Nat.div_le_self _ _
  simp only [go_sem, Nat.reduceAdd, Nat.reduceSub, Nat.reduceMul, Nat.reduceEqDiff, Nat.reduceLT, Nat.reduceLeDiff, Nat.reduceBEq, reduceIte, reduceCtorEq, Int.reduceToNat, Int.reduceLE, Int.reduceLT, Int.reduceBEq, Int.reduceBNe, tdiv_nat]
  generalize n / g = p at *
  generalize d / g = q at *
  rw [wrap_u64 (x := (p : Int)) (by omega) (by omega), wrap_u64 (x := (q : Int)) (by omega) (by omega)]
  have d1 : ¬ (p : Int) > 1000000000000 := by omega
  have d2 : ¬ (q : Int) > 1000000 := by omega
  refine ⟨by omega, by omega, ?_⟩
  simp only [go_sem, Nat.reduceAdd, Nat.reduceSub, Nat.reduceMul, Nat.reduceEqDiff, Nat.reduceLT, Nat.reduceLeDiff, Nat.reduceBEq, reduceIte, reduceCtorEq, Int.reduceToNat, Int.reduceLE, Int.reduceLT, Int.reduceBEq, Int.reduceBNe, d1, d2, c1, c2, c3]
  rw [wrap_i64 (x := (p : Int)) (by omega) (by omega), wrap_i64 (x := (q : Int)) (by omega) (by omega)]
  exact Cl.fin rfl ⟨rfl, rfl⟩
theorem rValidR_ok (n d : Nat) (hn : n ≤ 1000000000000) (hd : d ≤ 1000000) (hd0 : 0 < d) (hg : Nat.gcd n d = 1) : AFn Tryd.prog 40 [.agg [.int .i64 n, .int .i64 d]] [] (fun v rs => v = .bool true ∧ rs = []) := by
  refine afn Tryd.func40 a40_ok (by simp [a40]) ?_
  have c1 : (d : Int) ≥ 1 := by omega
  have c2 : (d : Int) ≤ 1000000 := by omega
  have c3 : (n : Int) ≥ -1000000000000 := by omega
  have c4 : (n : Int) ≤ 1000000000000 := by omega
  have hc := common_ok n d (by omega) (by omega)
  rw [hg] at hc
  simp only [go_sem, Nat.reduceAdd, Nat.reduceSub, Nat.reduceMul, Nat.reduceEqDiff, Nat.reduceLT, Nat.reduceLeDiff, Nat.reduceBEq, reduceIte, reduceCtorEq, Int.reduceToNat, Int.reduceLE, Int.reduceLT, Int.reduceBEq, Int.reduceBNe, a40, a40r0, a40r1, c1, c2, c3, c4]
  refine callD_det (size_ok n (by omega)) rfl rfl ?_
  simp only [go_sem, Nat.reduceAdd, Nat.reduceSub, Nat.reduceMul, Nat.reduceEqDiff, Nat.reduceLT, Nat.reduceLeDiff, Nat.reduceBEq, reduceIte, reduceCtorEq, Int.reduceToNat, Int.reduceLE, Int.reduceLT, Int.reduceBEq, Int.reduceBNe]
  refine callD_det (size_ok d (by omega)) rfl rfl ?_
  simp only [go_sem, Nat.reduceAdd, Nat.reduceSub, Nat.reduceMul, Nat.reduceEqDiff, Nat.reduceLT, Nat.reduceLeDiff, Nat.reduceBEq, reduceIte, reduceCtorEq, Int.reduceToNat, Int.reduceLE, Int.reduceLT, Int.reduceBEq, Int.reduceBNe]
  refine callD_det hc rfl rfl ?_
  simp only [go_sem, Nat.reduceAdd, Nat.reduceSub, Nat.reduceMul, Nat.reduceEqDiff, Nat.reduceLT, Nat.reduceLeDiff, Nat.reduceBEq, reduceIte, reduceCtorEq, Int.reduceToNat, Int.reduceLE, Int.reduceLT, Int.reduceBEq, Int.reduceBNe]
  exact Cl.fin rfl ⟨rfl, rfl⟩
/-- two shares of one whole add up to it -/
theorem share_add (u w s g h : Nat) (hs : u + w = s) (hs0 : 0 < s) (hg : g = Nat.gcd u s) (hh : h = Nat.gcd w s) : u / g * (s / h) + w / h * (s / g) = s / g * (s / h) := by
  have g0 : 0 < g := by rw [hg]; exact Nat.gcd_pos_of_pos_right _ hs0
  have h0 : 0 < h := by rw [hh]; exact Nat.gcd_pos_of_pos_right _ hs0
  obtain ⟨u', hu⟩ : g ∣ u := by rw [hg]; exact Nat.gcd_dvd_left _ _
  obtain ⟨w', hw⟩ : h ∣ w := by rw [hh]; exact Nat.gcd_dvd_left _ _
  obtain ⟨s1, hs1⟩ : g ∣ s := by rw [hg]; exact Nat.gcd_dvd_right _ _
  obtain ⟨s2, hs2⟩ : h ∣ s := by rw [hh]; exact Nat.gcd_dvd_right _ _
  have e1 : u / g = u' := by rw [hu]; exact Nat.mul_div_cancel_left _ g0
  have e2 : w / h = w' := by rw [hw]; exact Nat.mul_div_cancel_left _ h0
  have e3 : s / g = s1 := by rw [hs1]; exact Nat.mul_div_cancel_left _ g0
  have e4 : s / h = s2 := by rw [hs2]; exact Nat.mul_div_cancel_left _ h0
  rw [e1, e2, e3, e4]
  have hgh : 0 < g * h := Nat.mul_pos g0 h0
  refine Nat.eq_of_mul_eq_mul_left hgh ?_
  have l1 : g * h * (u' * s2 + w' * s1) = (g * u') * (h * s2) + (h * w') * (g * s1) := by
    rw [Nat.mul_add]
    congr 1 <;> simp only [Nat.mul_comm, Nat.mul_left_comm, Nat.mul_assoc]
  have l2 : g * h * (s1 * s2) = (g * s1) * (h * s2) := by simp only [Nat.mul_comm, Nat.mul_left_comm, Nat.mul_assoc]
  rw [l1, l2, ← hu, ← hw, ← hs1, ← hs2, ← Nat.add_mul, hs]
theorem rAdd_ok (u w s : Nat) (hs : u + w = s) (hs0 : 0 < s) (hs1 : s ≤ 1000) : AFn Tryd.prog 24 [.agg [.int .i64 (u / Nat.gcd u s : Nat), .int .i64 (s / Nat.gcd u s : Nat)], .agg [.int .i64 (w / Nat.gcd w s : Nat), .int .i64 (s / Nat.gcd w s : Nat)]] [] (fun v rs => v = .tup [.agg [.int .i64 1, .int .i64 1], .int .i64 0] ∧ rs = []) := by
  refine afn Tryd.func24 a24_ok (by simp [a24]) ?_
  have hsh := share_add u w s _ _ hs hs0 rfl rfl
  have p1 := Nat.gcd_div_gcd_div_gcd_of_pos_right (n := u) hs0
  have p2 := Nat.gcd_div_gcd_div_gcd_of_pos_right (n := w) hs0
  have g0 := Nat.gcd_pos_of_pos_right u hs0
  have h0 := Nat.gcd_pos_of_pos_right w hs0
  have q1 : u / Nat.gcd u s ≤ u := Nat.div_le_self _ _
  have q2 : w / Nat.gcd w s ≤ w := Nat.div_le_self _ _
  have q3 : s / Nat.gcd u s ≤ s := Nat.div_le_self _ _
  have q4 : s / Nat.gcd w s ≤ s := Nat.div_le_self _ _
  have q5 : 0 < s / Nat.gcd u s := Nat.div_pos (Nat.le_of_dvd hs0 (Nat.gcd_dvd_right _ _)) g0
  have q6 : 0 < s / Nat.gcd w s := Nat.div_pos (Nat.le_of_dvd hs0 (Nat.gcd_dvd_right _ _)) h0
  generalize u / Nat.gcd u s = a at *
  generalize w / Nat.gcd w s = c at *
  generalize s / Nat.gcd u s = b at *
  generalize s / Nat.gcd w s = d at *
  have m1 : a * d ≤ 1000 * 1000 := Nat.mul_le_mul (by omega) (by omega)
  have m2 : c * b ≤ 1000 * 1000 := Nat.mul_le_mul (by omega) (by omega)
  have m3 : b * d ≤ 1000 * 1000 := Nat.mul_le_mul (by omega) (by omega)
  have m4 : 0 < b * d := Nat.mul_pos q5 q6
  have hN := rNew_ok (b * d) (b * d) (by omega) (by omega) m4
  rw [Nat.gcd_self, Nat.div_self m4] at hN
  simp only [go_sem, Nat.reduceAdd, Nat.reduceSub, Nat.reduceMul, Nat.reduceEqDiff, Nat.reduceLT, Nat.reduceLeDiff, Nat.reduceBEq, reduceIte, reduceCtorEq, Int.reduceToNat, Int.reduceLE, Int.reduceLT, Int.reduceBEq, Int.reduceBNe, a24, a24r0, a24r1, a24r2, a24r3]
  refine callC_det (rValidR_ok a b (by omega) (by omega) q5 p1) rfl rfl ?_
  simp only [go_sem, Nat.reduceAdd, Nat.reduceSub, Nat.reduceMul, Nat.reduceEqDiff, Nat.reduceLT, Nat.reduceLeDiff, Nat.reduceBEq, reduceIte, reduceCtorEq, Int.reduceToNat, Int.reduceLE, Int.reduceLT, Int.reduceBEq, Int.reduceBNe]
  refine callC_det (rValidR_ok c d (by omega) (by omega) q6 p2) rfl rfl ?_
  simp only [go_sem, Nat.reduceAdd, Nat.reduceSub, Nat.reduceMul, Nat.reduceEqDiff, Nat.reduceLT, Nat.reduceLeDiff, Nat.reduceBEq, reduceIte, reduceCtorEq, Int.reduceToNat, Int.reduceLE, Int.reduceLT, Int.reduceBEq, Int.reduceBNe]
  rw [show ((a : Int) * (d : Int)) = ((a * d : Nat) : Int) from by rw [Int.natCast_mul], show ((c : Int) * (b : Int)) = ((c * b : Nat) : Int) from by rw [Int.natCast_mul], show ((b : Int) * (d : Int)) = ((b * d : Nat) : Int) from by rw [Int.natCast_mul]]
  rw [wrap_i64 (x := ((a * d : Nat) : Int)) (by omega) (by omega), wrap_i64 (x := ((c * b : Nat) : Int)) (by omega) (by omega), wrap_i64 (x := ((b * d : Nat) : Int)) (by omega) (by omega), wrap_i64 (x := ((a * d : Nat) : Int) + ((c * b : Nat) : Int)) (by omega) (by omega), show ((a * d : Nat) : Int) + ((c * b : Nat) : Int) = ((b * d : Nat) : Int) from by omega]
  refine callC_det hN rfl rfl ?_
  simp only [go_sem, Nat.reduceAdd, Nat.reduceSub, Nat.reduceMul, Nat.reduceEqDiff, Nat.reduceLT, Nat.reduceLeDiff, Nat.reduceBEq, reduceIte, reduceCtorEq, Int.reduceToNat, Int.reduceLE, Int.reduceLT, Int.reduceBEq, Int.reduceBNe]
  exact Cl.fin rfl ⟨rfl, rfl⟩

end Go.Proofs.YtlanehcihoiglaaDoor
