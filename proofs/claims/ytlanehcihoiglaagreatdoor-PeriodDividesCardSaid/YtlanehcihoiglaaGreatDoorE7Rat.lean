/- Fractions of small natural numbers. -/
import Derived.Test.YtlanehcihoiglaaGreatDoorE3Gen
set_option linter.unusedSimpArgs false
set_option linter.unusedVariables false
set_option linter.unusedSectionVars false
namespace Go.Proofs.YtlanehcihoiglaaGreatDoor
open Go Go.Abs
set_option linter.unusedSimpArgs false
set_option linter.unusedVariables false

theorem tmod_nat (a b : Nat) : ((a : Int).tmod (b : Int)) = ((a % b : Nat) : Int) := by
  rw [Int.tmod_eq_emod_of_nonneg (by omega)]; rfl
theorem tdiv_nat (a b : Nat) : ((a : Int).tdiv (b : Int)) = ((a / b : Nat) : Int) := by
  rw [Int.tdiv_eq_ediv_of_nonneg (by omega)]; rfl
theorem gcd_ok (a b : Nat) (ha : a < 9000000000000000000) (hb : b < 9000000000000000000) : AFn Tryz.prog 75 [.int .u64 a, .int .u64 b] [] (fun v rs => v = .int .u64 (Nat.gcd a b : Nat) ∧ rs = []) := by
  refine afn Tryz.func75 a75_ok (by simp [a75]) ?_
  simp only [go_sem,a75,a75r0,a75r1,a75r2,a75r3]
  have hend : True := trivial
  refine avc_loop (fun env rows => ∃ x y : Nat, Nat.gcd x y = Nat.gcd a b ∧ x < 9000000000000000000 ∧ y < 9000000000000000000 ∧ env = [(0, .int .u64 x), (1, .int .u64 y)] ∧ rows = [])
    (fun env _ => match slot env 1 with | .int _ j => j.toNat | _ => 0) ?_ ?_
  · exact Cl.here ⟨a, b, rfl, ha, hb, rfl, rfl⟩
  rintro env rows ⟨x, y, hg, hx, hy, rfl, rfl⟩
  by_cases h0 : y = 0
  · subst h0
    have hb0 : (((0 : Nat) : Int) != 0) = false := rfl
    simp only [go_sem,a75,a75r0,a75r1,a75r2,a75r3,hb0]
    rw [Nat.gcd_zero_right] at hg
    exact Cl.fin rfl ⟨by rw [hg], rfl⟩
  · have hb0 : ((y : Int) != 0) = true := by simp; omega
    simp only [go_sem,a75,a75r0,a75r1,a75r2,a75r3,hb0]
    rw [tmod_nat]
    refine ⟨by omega, ?_⟩
    have hlt := Nat.mod_lt x (Nat.pos_of_ne_zero h0)
    refine Cl.here ⟨⟨y, x % y, ?_, hy, by omega, rfl, rfl⟩, ?_⟩
    · rw [← hg, Nat.gcd_comm x y, Nat.gcd_rec y x, Nat.gcd_comm]
    · simp only [go_sem]
      omega
theorem common_ok (a b : Nat) (ha : a < 9000000000000000000) (hb : b < 9000000000000000000) : AFn Tryz.prog 63 [.int .u64 a, .int .u64 b] [] (fun v rs => v = .int .u64 (Nat.gcd a b : Nat) ∧ rs = []) := by
  refine afn Tryz.func63 a63_ok (by simp [a63]) ?_
  simp only [go_sem,a63,a63r0,a63r1,a63r2,a63r3]
  have hend : True := trivial
  refine avc_loop (fun env rows => ∃ x y : Nat, Nat.gcd x y = Nat.gcd a b ∧ x < 9000000000000000000 ∧ y < 9000000000000000000 ∧ env = [(0, .int .u64 x), (1, .int .u64 y)] ∧ rows = [])
    (fun env _ => match slot env 1 with | .int _ j => j.toNat | _ => 0) ?_ ?_
  · exact Cl.here ⟨a, b, rfl, ha, hb, rfl, rfl⟩
  rintro env rows ⟨x, y, hg, hx, hy, rfl, rfl⟩
  by_cases h0 : y = 0
  · subst h0
    have hb0 : (((0 : Nat) : Int) != 0) = false := rfl
    simp only [go_sem,a63,a63r0,a63r1,a63r2,a63r3,hb0]
    rw [Nat.gcd_zero_right] at hg
    exact Cl.fin rfl ⟨by rw [hg], rfl⟩
  · have hb0 : ((y : Int) != 0) = true := by simp; omega
    simp only [go_sem,a63,a63r0,a63r1,a63r2,a63r3,hb0]
    rw [tmod_nat]
    refine ⟨by omega, ?_⟩
    have hlt := Nat.mod_lt x (Nat.pos_of_ne_zero h0)
    refine Cl.here ⟨⟨y, x % y, ?_, hy, by omega, rfl, rfl⟩, ?_⟩
    · rw [← hg, Nat.gcd_comm x y, Nat.gcd_rec y x, Nat.gcd_comm]
    · simp only [go_sem]
      omega
theorem magnitude_ok (n : Nat) (h : n < 9000000000000000000) : AFn Tryz.prog 61 [.int .i64 n] [] (fun v rs => v = .int .u64 n ∧ rs = []) := by
  refine afn Tryz.func61 a61_ok (by simp [a61]) ?_
  have h0 : ¬ (n : Int) < 0 := by omega
  simp only [go_sem,a61,a61r0,a61r1,a61r2,a61r3,h0]
  rw [wrap_u64 (by omega) (by omega)]
  exact Cl.fin rfl ⟨rfl, rfl⟩
theorem size_ok (n : Nat) (h : n < 9000000000000000000) : AFn Tryz.prog 62 [.int .i64 n] [] (fun v rs => v = .int .u64 n ∧ rs = []) := by
  refine afn Tryz.func62 a62_ok (by simp [a62]) ?_
  have h0 : ¬ (n : Int) < 0 := by omega
  simp only [go_sem,a62,a62r0,a62r1,a62r2,a62r3,h0]
  rw [wrap_u64 (by omega) (by omega)]
  exact Cl.fin rfl ⟨rfl, rfl⟩
theorem fit_ok (n d : Nat) (hn : n ≤ 1000000000000) (hd : d ≤ 1000000) (hd0 : 0 < d) : AFn Tryz.prog 60 [.bool false, .int .u64 n, .int .u64 d] [] (fun v rs => v = .tup [.agg [.int .i64 (n / Nat.gcd n d : Nat), .int .i64 (d / Nat.gcd n d : Nat)], .int .i64 0] ∧ rs = []) := by
  refine afn Tryz.func60 a60_ok (by simp [a60]) ?_
  have hg := Nat.gcd_pos_of_pos_right n hd0
  simp only [go_sem,a60,a60r0,a60r1,a60r2,a60r3,a60r4,a60r5,a60r6,a60r7,a60r8]
  refine callC_det (gcd_ok n d (by omega) (by omega)) rfl rfl ?_
  generalize Nat.gcd n d = g at *
  have h1 : n / g ≤ n := Nat.div_le_self _ _
  have h2 : d / g ≤ d := Nat.div_le_self _ _
  simp only [go_sem,tdiv_nat]
  generalize n / g = p at *
  generalize d / g = q at *
  rw [wrap_u64 (x := (p : Int)) (by omega) (by omega), wrap_u64 (x := (q : Int)) (by omega) (by omega)]
  have c1 : ¬ (p : Int) > 1000000000000 := by omega
  have c2 : ¬ (q : Int) > 1000000 := by omega
  refine ⟨by omega, by omega, ?_⟩
  simp only [go_sem,c1,c2]
  rw [wrap_i64 (x := (p : Int)) (by omega) (by omega), wrap_i64 (x := (q : Int)) (by omega) (by omega)]
  exact Cl.fin rfl ⟨rfl, rfl⟩
theorem ratNew_ok (n d : Nat) (hn : n ≤ 1000000000000) (hd : d ≤ 1000000) (hd0 : 0 < d) : AFn Tryz.prog 41 [.int .i64 n, .int .i64 d] [] (fun v rs => v = .tup [.agg [.int .i64 (n / Nat.gcd n d : Nat), .int .i64 (d / Nat.gcd n d : Nat)], .int .i64 0] ∧ rs = []) := by
  refine afn Tryz.func41 a41_ok (by simp [a41]) ?_
  have c0 : ((d : Int) == 0) = false := by simp; omega
  have c1 : ¬ (n : Int) < 0 := by omega
  have c2 : ¬ (d : Int) < 0 := by omega
  have c3 : ((false : Bool) == false) = true := rfl
  simp only [go_sem,a41,a41r0,a41r1,a41r2,a41r3,c0,c1,c2,c3]
  refine callC_det (magnitude_ok n (by omega)) rfl rfl ?_
  simp only [go_sem]
  refine callC_det (magnitude_ok d (by omega)) rfl rfl ?_
  simp only [go_sem]
  refine callC_det (fit_ok n d hn hd hd0) rfl rfl ?_
  simp only [go_sem]
  exact Cl.fin rfl ⟨rfl, rfl⟩
theorem ratZero_ok (n : Nat) : AFn Tryz.prog 41 [.int .i64 n, .int .i64 0] [] (fun v rs => v = .tup [.agg [.int .i64 0, .int .i64 0], .int .i64 5] ∧ rs = []) := by
  refine afn Tryz.func41 a41_ok (by simp [a41]) ?_
  simp only [go_sem,a41,a41r0,a41r1,a41r2,a41r3]
  exact Cl.fin rfl ⟨rfl, rfl⟩
theorem rNew_ok (n d : Nat) (hn : n ≤ 1000000000000) (hd : d ≤ 1000000) (hd0 : 0 < d) : AFn Tryz.prog 42 [.int .i64 n, .int .i64 d] [] (fun v rs => v = .tup [.agg [.int .i64 (n / Nat.gcd n d : Nat), .int .i64 (d / Nat.gcd n d : Nat)], .int .i64 0] ∧ rs = []) := by
  refine afn Tryz.func42 a42_ok (by simp [a42]) ?_
  have c0 : ((d : Int) == 0) = false := by simp; omega
  have c1 : ¬ (n : Int) < 0 := by omega
  have c2 : ¬ (d : Int) < 0 := by omega
  have c3 : ((false : Bool) == false) = true := rfl
  simp only [go_sem,a42,a42r0,a42r1,a42r2,a42r3,a42r4,a42r5,a42r6,a42r7,a42r8,a42r9,a42r10,a42r11,c0]
  refine callC_det (size_ok n (by omega)) rfl rfl ?_
  simp only [go_sem]
  refine callC_det (size_ok d (by omega)) rfl rfl ?_
  simp only [go_sem]
  have hg := Nat.gcd_pos_of_pos_right n hd0
  refine callC_det (common_ok n d (by omega) (by omega)) rfl rfl ?_
  generalize Nat.gcd n d = g at *
  have h1 : n / g ≤ n := Nat.div_le_self _ _
  have h2 : d / g ≤ d := Nat.div_le_self _ _
  simp only [go_sem,tdiv_nat]
  generalize n / g = p at *
  generalize d / g = q at *
  rw [wrap_u64 (x := (p : Int)) (by omega) (by omega), wrap_u64 (x := (q : Int)) (by omega) (by omega)]
  have d1 : ¬ (p : Int) > 1000000000000 := by omega
  have d2 : ¬ (q : Int) > 1000000 := by omega
  refine ⟨by omega, by omega, ?_⟩
  simp only [go_sem,d1,d2,c1,c2,c3]
  rw [wrap_i64 (x := (p : Int)) (by omega) (by omega), wrap_i64 (x := (q : Int)) (by omega) (by omega)]
  exact Cl.fin rfl ⟨rfl, rfl⟩
end Go.Proofs.YtlanehcihoiglaaGreatDoor
