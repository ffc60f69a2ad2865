/- The reference of chapter 3. -/
import Derived.Test.YtlanehcihoiglaaGreatDoorE3Pl
import Derived.Test.YtlanehcihoiglaaGreatDoorB2zForms
set_option linter.unusedSimpArgs false
set_option linter.unusedVariables false
set_option linter.unusedSectionVars false
namespace Go.Proofs.YtlanehcihoiglaaGreatDoor
open Go Go.Abs
set_option linter.unusedSimpArgs false

theorem rlen_ok (y m : Int) (h0 : 0 ≤ y) (h1 : 1 ≤ m) (h2 : m ≤ 12) : AFn Tryz.prog 35 [.int .i64 y, .int .i64 m] [] (fun v rs => v = .int .i64 (lenP y m) ∧ rs = []) := by
  refine afn Tryz.func35 a35_ok (by simp [a35]) ?_
  obtain rfl | rfl | rfl | rfl | rfl | rfl | rfl | rfl | rfl | rfl | rfl | rfl : m = 1 ∨ m = 2 ∨ m = 3 ∨ m = 4 ∨ m = 5 ∨ m = 6 ∨ m = 7 ∨ m = 8 ∨ m = 9 ∨ m = 10 ∨ m = 11 ∨ m = 12 := by omega
  all_goals simp only [go_sem,a35,a35r0,a35r1,a35r2,a35r3,a35r4,a35r5,a35r6,a35r7,a35r8,a35r9,a35r10,a35r11]
  any_goals exact Cl.fin rfl ⟨by simp [lenP, lensTab], rfl⟩
  simp only [Int.tmod_eq_emod_of_nonneg h0]
  refine ⟨by decide, ?_⟩
  have hy : leapP y = true → lenP y 2 = 29 := fun h => by simp [lenP, h]
  have hn : ¬ leapP y = true → lenP y 2 = 28 := fun h => by simp [lenP, h, lensTab]
  rw [leapP_iff] at hy hn
  have t1 : y.tmod 100 = y % 100 := Int.tmod_eq_emod_of_nonneg h0
  have t2 : y.tmod 400 = y % 400 := Int.tmod_eq_emod_of_nonneg h0
  by_cases a : y % 4 = 0
  · have f1 : (y % 4 == 0) = true := beq_iff_eq.2 a
    by_cases b : y % 100 = 0
    · have f2 : (y % 100 != 0) = false := by simp [b]
      by_cases c : y % 400 = 0
      · have f3 : (y % 400 == 0) = true := beq_iff_eq.2 c
        simp only [go_sem,a35,a35r0,a35r1,a35r2,a35r3,a35r4,a35r5,a35r6,a35r7,a35r8,a35r9,a35r10,a35r11,f1,t1,f2,t2,f3]
        first
          | exact Cl.fin rfl ⟨by rw [hy (by omega)], rfl⟩
          | exact ⟨by decide, by decide, Cl.fin rfl ⟨by rw [hy (by omega)], rfl⟩⟩
      · have f3 : (y % 400 == 0) = false := beq_eq_false_iff_ne.2 c
        simp only [go_sem,a35,a35r0,a35r1,a35r2,a35r3,a35r4,a35r5,a35r6,a35r7,a35r8,a35r9,a35r10,a35r11,f1,t1,f2,t2,f3]
        first
          | exact Cl.fin rfl ⟨by rw [hn (by omega)], rfl⟩
          | exact ⟨by decide, by decide, Cl.fin rfl ⟨by rw [hn (by omega)], rfl⟩⟩
    · have f2 : (y % 100 != 0) = true := by simp [b]
      simp only [go_sem,a35,a35r0,a35r1,a35r2,a35r3,a35r4,a35r5,a35r6,a35r7,a35r8,a35r9,a35r10,a35r11,f1,t1,f2]
      first
        | exact Cl.fin rfl ⟨by rw [hy (by omega)], rfl⟩
        | exact ⟨by decide, Cl.fin rfl ⟨by rw [hy (by omega)], rfl⟩⟩
  · have f1 : (y % 4 == 0) = false := beq_eq_false_iff_ne.2 a
    simp only [go_sem,a35,a35r0,a35r1,a35r2,a35r3,a35r4,a35r5,a35r6,a35r7,a35r8,a35r9,a35r10,a35r11,f1]
    first
      | exact Cl.fin rfl ⟨by rw [hn (by omega)], rfl⟩
      | exact ⟨by decide, Cl.fin rfl ⟨by rw [hn (by omega)], rfl⟩⟩

theorem rbefore_ok (y : Int) (h0 : 1969 ≤ y) (h1 : y ≤ 2300) : AFn Tryz.prog 49 [.int .i64 y] [] (fun v rs => v = .int .i64 (beginP y) ∧ rs = []) := by
  refine afn Tryz.func49 a49_ok (by simp [a49]) ?_
  simp only [go_sem,a49,a49r0,a49r1,a49r2,a49r3,a49r4,a49r5,a49r6,a49r7]
  rw [wrap_i64 (x := y - 1970) (by omega) (by omega), wrap_i64 (by omega) (by omega)]
  refine avc_loop (fun env rows => ∃ j : Nat, 1972 + 4 * (j : Int) < y + 4 ∧ env = [(0, .int .i64 y), (3, .int .i64 ((y - 1970) * 365 + leapsP (1971 + 4 * j) - 477)), (4, .int .i64 (1972 + 4 * j))] ∧ rows = [])
    (fun env _ => match slot env 4 with | .int _ j => (3000 - j).toNat | _ => 0) ?_ ?_
  · exact Cl.here ⟨0, by omega, by simp [leapsP], rfl⟩
  · rintro env rows ⟨j, hj, rfl, rfl⟩
    have hlb : 400 ≤ leapsP (1971 + 4 * j) ∧ leapsP (1971 + 4 * j) ≤ 1000 := by simp only [leapsP]; omega
    simp only [go_sem,a49,a49r0,a49r1,a49r2,a49r3,a49r4,a49r5,a49r6,a49r7]
    refine condC_intro ?_ ?_ <;> intro hg1 <;> simp only [decide_eq_true_eq,decide_eq_false_iff_not,beq_iff_eq,beq_eq_false_iff_ne,bne_iff_ne,bne_eq_false_iff_eq,Bool.not_eq_true',Bool.not_eq_false',Int.not_lt,Int.not_le,ne_eq,Bool.and_eq_true,Bool.or_eq_true,Bool.or_eq_false_iff,Bool.and_eq_false_iff] at hg1 <;> simp only [go_sem,a49,a49r0,a49r1,a49r2,a49r3,a49r4,a49r5,a49r6,a49r7]
    · refine callC_det (rlen_ok (1972 + 4 * j) 2 (by omega) (by omega) (by omega)) rfl rfl ?_
      simp only [go_sem]
      have hw4 : IntKind.i64.wrap (1972 + 4 * (j : Int) + 4) = 1972 + 4 * ((j + 1 : Nat) : Int) := by rw [wrap_i64 (by omega) (by omega)]; omega
      have hl : lenP (1972 + 4 * j) 2 = 29 ∧ leapsP (1971 + 4 * ((j + 1 : Nat) : Int)) = leapsP (1971 + 4 * j) + 1 ∨ lenP (1972 + 4 * j) 2 = 28 ∧ leapsP (1971 + 4 * ((j + 1 : Nat) : Int)) = leapsP (1971 + 4 * j) := by
        by_cases h : leapP (1972 + 4 * (j : Int)) = true
        · left
          refine ⟨by simp [lenP, h], ?_⟩
          rw [leapP_iff] at h
          simp only [leapsP]
          omega
        · right
          refine ⟨by simp [lenP, h, lensTab], ?_⟩
          rw [leapP_iff] at h
          simp only [leapsP]
          omega
      rcases hl with ⟨hl, hs⟩ | ⟨hl, hs⟩
      · rw [hl]
        simp only [go_sem,a49,a49r0,a49r1,a49r2,a49r3,a49r4,a49r5,a49r6,a49r7]
        rw [wrap_i64 (x := (y - 1970) * 365 + leapsP (1971 + 4 * j) - 477 + 1) (by omega) (by omega), hw4]
        refine Cl.here ⟨⟨j + 1, by omega, by rw [hs]; congr 4; omega, rfl⟩, ?_⟩
        simp only [go_sem]
        omega
      · rw [hl]
        simp only [go_sem,a49,a49r0,a49r1,a49r2,a49r3,a49r4,a49r5,a49r6,a49r7]
        rw [hw4]
        refine Cl.here ⟨⟨j + 1, by omega, by rw [hs], rfl⟩, ?_⟩
        simp only [go_sem]
        omega
    · have he : leapsP (1971 + 4 * j) = leapsP (y - 1) := by simp only [leapsP]; omega
      exact Cl.fin rfl ⟨by rw [he, beginP]; congr 1; omega, rfl⟩

theorem rraw_ok (y m d : Int) (h0 : 1970 ≤ y) (h1 : y ≤ 2300) (h2 : 1 ≤ m) (h3 : m ≤ 12) (h4 : -1000 ≤ d) (h5 : d ≤ 1000) : AFn Tryz.prog 51 [.int .i64 y, .int .i64 m, .int .i64 d] [] (fun v rs => v = .int .i64 (numP y m d) ∧ rs = []) := by
  refine afn Tryz.func51 a51_ok (by simp [a51]) ?_
  have hbr := begin_range (y := y) (by omega) h1
  simp only [go_sem,a51,a51r0,a51r1,a51r2,a51r3,a51r4,a51r5,a51r6]
  refine callC_det (rbefore_ok y (by omega) (by omega)) rfl rfl ?_
  simp only [go_sem]
  rw [wrap_i64 (x := beginP y + d) (by omega) (by omega), wrap_i64 (by omega) (by omega)]
  refine avc_loop (fun env rows => ∃ (k : Nat), (k : Int) + 1 ≤ m ∧ env = [(0, .int .i64 y), (1, .int .i64 m), (7, .int .i64 (beginP y + d - 1 + sumL y k)), (8, .int .i64 (k + 1))] ∧ rows = [])
    (fun env _ => match slot env 8 with | .int _ j => (m - j).toNat | _ => 0) ?_ ?_
  · exact Cl.here ⟨0, by omega, by simp [sumL], rfl⟩
  · rintro env rows ⟨k, hk, rfl, rfl⟩
    have hsb := sumL_bd y k (by omega)
    simp only [go_sem,a51,a51r0,a51r1,a51r2,a51r3,a51r4,a51r5,a51r6]
    refine condC_intro ?_ ?_ <;> intro hg1 <;> simp only [decide_eq_true_eq,decide_eq_false_iff_not,beq_iff_eq,beq_eq_false_iff_ne,bne_iff_ne,bne_eq_false_iff_eq,Bool.not_eq_true',Bool.not_eq_false',Int.not_lt,Int.not_le,ne_eq,Bool.and_eq_true,Bool.or_eq_true,Bool.or_eq_false_iff,Bool.and_eq_false_iff] at hg1 <;> simp only [go_sem,a51,a51r0,a51r1,a51r2,a51r3,a51r4,a51r5,a51r6]
    · have hl := lenP_bd (y := y) (m := k + 1) (by omega) (by omega)
      refine callC_det (rlen_ok y (k + 1) (by omega) (by omega) (by omega)) rfl rfl ?_
      simp only [go_sem]
      rw [wrap_i64 (x := (k : Int) + 1 + 1) (by omega) (by omega), wrap_i64 (by omega) (by omega)]
      refine Cl.here ⟨⟨k + 1, by omega, by rw [sumL, Int.add_assoc]; rfl, rfl⟩, ?_⟩
      simp only [go_sem]
      omega
    · exact Cl.fin rfl ⟨by rw [numP, show (m - 1).toNat = k from by omega]; congr 1; omega, rfl⟩

end Go.Proofs.YtlanehcihoiglaaGreatDoor
