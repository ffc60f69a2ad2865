/- The calendar: the walk through days, months and years. -/
import Derived.Test.YtlanehcihoiglaaGreatDoorE3Cal
set_option linter.unusedSimpArgs false
set_option linter.unusedVariables false
set_option linter.unusedSectionVars false
namespace Go.Proofs.YtlanehcihoiglaaGreatDoor
open Go Go.Abs
set_option linter.unusedSimpArgs false

theorem leaps_ok (y : Int) (h0 : 0 ≤ y) (h1 : y ≤ 1000000) : AFn Tryz.prog 81 [.int .i64 y] [] (fun v rs => v = .int .i64 (leapsP y) ∧ rs = []) := by
  refine afn Tryz.func81 a81_ok (by simp [a81]) ?_
  simp only [go_sem,a81,a81r0,a81r1]
  simp only [Int.tdiv_eq_ediv_of_nonneg h0]
  rw [wrap_i64 (x := y / 4) (by omega) (by omega), wrap_i64 (x := y / 100) (by omega) (by omega), wrap_i64 (x := y / 400) (by omega) (by omega), wrap_i64 (x := y / 4 - y / 100) (by omega) (by omega), wrap_i64 (by omega) (by omega)]
  refine ⟨by decide, by decide, by decide, ?_⟩
  exact Cl.fin rfl ⟨by rw [leapsP], rfl⟩

theorem begin_ok (y : Int) (h0 : 1 ≤ y) (h1 : y ≤ 100000) : AFn Tryz.prog 69 [.int .i64 y] [] (fun v rs => v = .int .i64 (beginP y) ∧ rs = []) := by
  refine afn Tryz.func69 a69_ok (by simp [a69]) ?_
  simp only [go_sem,a69,a69r0,a69r1]
  rw [wrap_i64 (x := y - 1) (by omega) (by omega), wrap_i64 (x := y - 1970) (by omega) (by omega), wrap_i64 (by omega) (by omega)]
  refine callC_det (leaps_ok (y - 1) (by omega) (by omega)) rfl rfl ?_
  have hl : 0 ≤ leapsP (y - 1) ∧ leapsP (y - 1) ≤ 100000 := by simp only [leapsP]; omega
  have hb : beginP y = 365 * (y - 1970) + leapsP (y - 1) - leapsP 1969 := rfl
  rw [hb]
  generalize leapsP (y - 1) = a at hl ⊢
  simp only [go_sem]
  rw [wrap_i64 (by omega) (by omega)]
  refine callC_det (leaps_ok 1969 (by omega) (by omega)) rfl rfl ?_
  rw [show leapsP 1969 = 477 from rfl]
  simp only [go_sem]
  rw [wrap_i64 (by omega) (by omega)]
  exact Cl.fin rfl ⟨rfl, rfl⟩

theorem valid_ok (d : Int) : AFn Tryz.prog 53 [.int .i64 d] [] (fun v rs => v = .bool (decide (0 ≤ d ∧ d ≤ 84005)) ∧ rs = []) := by
  refine afn Tryz.func53 a53_ok (by simp [a53]) ?_
  simp only [go_sem,a53,a53r0,a53r1]
  repeat' (first | (refine grdC_intro ?_ ?_ <;> intro hg <;> (have hp := hg; try simp only [decide_eq_true_eq,decide_eq_false_iff_not,beq_iff_eq,beq_eq_false_iff_ne,bne_iff_ne,bne_eq_false_iff_eq,Bool.not_eq_true',Bool.not_eq_false',Int.not_lt,Int.not_le,ne_eq,Bool.and_eq_true,Bool.or_eq_true,Bool.or_eq_false_iff,Bool.and_eq_false_iff] at hp) <;> (first | omega | (simp only [go_sem,hg,a53,a53r0,a53r1]; clear hg))) | (refine grdD_intro ?_ ?_ <;> intro hg <;> (have hp := hg; try simp only [decide_eq_true_eq,decide_eq_false_iff_not,beq_iff_eq,beq_eq_false_iff_ne,bne_iff_ne,bne_eq_false_iff_eq,Bool.not_eq_true',Bool.not_eq_false',Int.not_lt,Int.not_le,ne_eq,Bool.and_eq_true,Bool.or_eq_true,Bool.or_eq_false_iff,Bool.and_eq_false_iff] at hp) <;> (first | omega | (simp only [go_sem,hg,a53,a53r0,a53r1]; clear hg))) | (refine condC_intro ?_ ?_ <;> intro hg <;> (have hp := hg; try simp only [decide_eq_true_eq,decide_eq_false_iff_not,beq_iff_eq,beq_eq_false_iff_ne,bne_iff_ne,bne_eq_false_iff_eq,Bool.not_eq_true',Bool.not_eq_false',Int.not_lt,Int.not_le,ne_eq,Bool.and_eq_true,Bool.or_eq_true,Bool.or_eq_false_iff,Bool.and_eq_false_iff] at hp) <;> (first | omega | (simp only [go_sem,hg,a53,a53r0,a53r1]; clear hg))) | (refine condW_intro ?_ ?_ <;> intro hg <;> (have hp := hg; try simp only [decide_eq_true_eq,decide_eq_false_iff_not,beq_iff_eq,beq_eq_false_iff_ne,bne_iff_ne,bne_eq_false_iff_eq,Bool.not_eq_true',Bool.not_eq_false',Int.not_lt,Int.not_le,ne_eq,Bool.and_eq_true,Bool.or_eq_true,Bool.or_eq_false_iff,Bool.and_eq_false_iff] at hp) <;> (first | omega | (simp only [go_sem,hg,a53,a53r0,a53r1]; clear hg))))
  all_goals (refine Cl.fin rfl ⟨congrArg AVal.bool ?_, rfl⟩; rw [Bool.eq_iff_iff]; simp only [decide_eq_true_eq, decide_eq_false_iff_not, beq_iff_eq, beq_eq_false_iff_ne, bne_iff_ne, bne_eq_false_iff_eq, Bool.not_eq_true', Bool.not_eq_false', Int.not_lt, Int.not_le, ne_eq, Bool.and_eq_true, Bool.or_eq_true, Bool.or_eq_false_iff, Bool.and_eq_false_iff, Bool.false_eq_true, false_iff]; omega)

def wdP (d : Int) : Int := (d + 3) % 7
theorem tmod7 (x : Int) : -7 < x.tmod 7 ∧ x.tmod 7 < 7 ∧ (x.tmod 7 + 7) % 7 = x % 7 := by
  rw [Int.tmod_eq_emod]
  split <;> omega
theorem weekday_ok (d : Int) (h0 : -1000000 ≤ d) (h1 : d ≤ 1000000) : AFn Tryz.prog 57 [.int .i64 d] [] (fun v rs => v = .int .i64 (wdP d) ∧ rs = []) := by
  refine afn Tryz.func57 a57_ok (by simp [a57]) ?_
  obtain ⟨a, b, c⟩ := tmod7 (d + 3)
  simp only [go_sem,a57,a57r0,a57r1]
  rw [wrap_i64 (x := d + 3) (by omega) (by omega), wrap_i64 (by omega) (by omega), Int.tmod_eq_emod_of_nonneg (a := (d + 3).tmod 7 + 7) (by omega), c]
  exact ⟨by decide, by decide, Cl.fin rfl ⟨rfl, rfl⟩⟩

theorem yearOf_ok (d : Int) (h0 : 0 ≤ d) (h1 : d ≤ 90000) : AFn Tryz.prog 55 [.int .i64 d] [] (fun v rs => v = .int .i64 (yearP d) ∧ rs = []) := by
  refine afn Tryz.func55 a55_ok (by simp [a55]) ?_
  simp only [go_sem,a55,a55r0,a55r1,a55r2,a55r3,a55r4]
  refine ⟨by decide, ?_⟩
  rw [Int.tdiv_eq_ediv_of_nonneg h0, wrap_i64 (x := d / 366) (by omega) (by omega), wrap_i64 (by omega) (by omega)]
  refine avc_loop (fun env rows => ∃ (k : Nat) (y : Int), yearP d = yearF k y d ∧ 1970 ≤ y ∧ y + k ≥ 2250 ∧ y ≤ 2240 ∧ beginP y ≤ d ∧ env = [(0, .int .i64 d), (3, .int .i64 y)] ∧ rows = [])
    (fun env _ => match slot env 3 with | .int _ j => (3000 - j).toNat | _ => 0) ?_ ?_
  · have hb := begin_bd (y := 1970 + d / 366) (by omega) (by omega)
    exact Cl.here ⟨400, 1970 + d / 366, rfl, by omega, by omega, by omega, by omega, rfl, rfl⟩
  · rintro env rows ⟨k, y, hy, h2, h3, h4, h5, rfl, rfl⟩
    simp only [go_sem,a55,a55r0,a55r1,a55r2,a55r3,a55r4]
    rw [wrap_i64 (by omega) (by omega)]
    refine callC_det (begin_ok (y + 1) (by omega) (by omega)) rfl rfl ?_
    simp only [go_sem]
    obtain ⟨k, rfl⟩ : ∃ j, k = j + 1 := ⟨k - 1, by omega⟩
    rw [yearF] at hy
    refine condC_intro ?_ ?_ <;> intro hg1 <;> simp only [decide_eq_true_eq,decide_eq_false_iff_not,beq_iff_eq,beq_eq_false_iff_ne,bne_iff_ne,bne_eq_false_iff_eq,Bool.not_eq_true',Bool.not_eq_false',Int.not_lt,Int.not_le,ne_eq,Bool.and_eq_true,Bool.or_eq_true,Bool.or_eq_false_iff,Bool.and_eq_false_iff] at hg1 <;> simp only [go_sem,a55,a55r0,a55r1,a55r2,a55r3,a55r4]
    · rw [if_pos hg1] at hy
      have hb := begin_bd (y := y + 1) (by omega) (by omega)
      rw [wrap_i64 (by omega) (by omega)]
      refine Cl.here ⟨⟨k, y + 1, hy, by omega, by omega, by omega, hg1, rfl, rfl⟩, ?_⟩
      simp only [go_sem]
      omega
    · rw [if_neg (by omega)] at hy
      exact Cl.fin rfl ⟨by rw [hy], rfl⟩

theorem sumL_bd (y : Int) : ∀ k : Nat, k ≤ 12 → 28 * k ≤ sumL y k ∧ sumL y k ≤ 31 * k
  | 0, _ => by simp [sumL]
  | k + 1, h => by
    have ih := sumL_bd y k (by omega)
    have hl := lenP_bd (y := y) (m := k + 1) (by omega) (by omega)
    rw [sumL]; omega
theorem begin_range {y : Int} (h0 : 1969 ≤ y) (h1 : y ≤ 2300) : -1000 ≤ beginP y ∧ beginP y ≤ 200000 := by
  simp only [beginP, leapsP]; omega
theorem number_ok (y m d : Int) (h0 : 1970 ≤ y) (h1 : y ≤ 2300) (h2 : 1 ≤ m) (h3 : m ≤ 12) (h4 : -1000 ≤ d) (h5 : d ≤ 1000) : AFn Tryz.prog 79 [.int .i64 y, .int .i64 m, .int .i64 d] [] (fun v rs => v = .int .i64 (numP y m d) ∧ rs = []) := by
  refine afn Tryz.func79 a79_ok (by simp [a79]) ?_
  have hbr := begin_range (y := y) (by omega) h1
  simp only [go_sem,a79,a79r0,a79r1,a79r2,a79r3,a79r4,a79r5,a79r6]
  refine callC_det (begin_ok y (by omega) (by omega)) rfl rfl ?_
  simp only [go_sem]
  refine avc_loop (fun env rows => ∃ (k : Nat), (k : Int) + 1 ≤ m ∧ env = [(0, .int .i64 y), (1, .int .i64 m), (2, .int .i64 d), (7, .int .i64 (beginP y + sumL y k)), (8, .int .i64 (k + 1))] ∧ rows = [])
    (fun env _ => match slot env 8 with | .int _ j => (m - j).toNat | _ => 0) ?_ ?_
  · exact Cl.here ⟨0, by omega, by simp [sumL], rfl⟩
  · rintro env rows ⟨k, hk, rfl, rfl⟩
    have hsb := sumL_bd y k (by omega)
    simp only [go_sem,a79,a79r0,a79r1,a79r2,a79r3,a79r4,a79r5,a79r6]
    refine condC_intro ?_ ?_ <;> intro hg1 <;> simp only [decide_eq_true_eq,decide_eq_false_iff_not,beq_iff_eq,beq_eq_false_iff_ne,bne_iff_ne,bne_eq_false_iff_eq,Bool.not_eq_true',Bool.not_eq_false',Int.not_lt,Int.not_le,ne_eq,Bool.and_eq_true,Bool.or_eq_true,Bool.or_eq_false_iff,Bool.and_eq_false_iff] at hg1 <;> simp only [go_sem,a79,a79r0,a79r1,a79r2,a79r3,a79r4,a79r5,a79r6]
    · have hl := lenP_bd (y := y) (m := k + 1) (by omega) (by omega)
      refine callC_det (length_ok y (k + 1) (by omega) (by omega) (by omega)) rfl rfl ?_
      simp only [go_sem]
      rw [wrap_i64 (x := (k : Int) + 1 + 1) (by omega) (by omega), wrap_i64 (by omega) (by omega)]
      refine Cl.here ⟨⟨k + 1, by omega, by rw [sumL, Int.add_assoc]; rfl, rfl⟩, ?_⟩
      simp only [go_sem]
      omega
    · rw [wrap_i64 (x := beginP y + sumL y k + d) (by omega) (by omega), wrap_i64 (by omega) (by omega)]
      exact Cl.fin rfl ⟨by rw [numP, show (m - 1).toNat = k from by omega], rfl⟩

def dayP (y m d : Int) : Int × Bool := if 1970 ≤ y ∧ y ≤ 2199 ∧ 1 ≤ m ∧ m ≤ 12 ∧ 1 ≤ d ∧ d ≤ lenP y m then (numP y m d, true) else (0, false)
theorem day_ok (y m d : Int) : AFn Tryz.prog 82 [.int .i64 y, .int .i64 m, .int .i64 d] [] (fun v rs => v = .tup [.int .i64 (dayP y m d).1, .bool (dayP y m d).2] ∧ rs = []) := by
  refine afn Tryz.func82 a82_ok (by simp [a82]) ?_
  have hbad : ¬ (1970 ≤ y ∧ y ≤ 2199 ∧ 1 ≤ m ∧ m ≤ 12 ∧ 1 ≤ d ∧ d ≤ lenP y m) → dayP y m d = (0, false) := fun h => by rw [dayP, if_neg h]
  simp only [go_sem,a82,a82r0,a82r1,a82r2,a82r3,a82r4,a82r5]
  repeat' (first | (refine grdC_intro ?_ ?_ <;> intro hg <;> (have hp := hg; try simp only [decide_eq_true_eq,decide_eq_false_iff_not,beq_iff_eq,beq_eq_false_iff_ne,bne_iff_ne,bne_eq_false_iff_eq,Bool.not_eq_true',Bool.not_eq_false',Int.not_lt,Int.not_le,ne_eq,Bool.and_eq_true,Bool.or_eq_true,Bool.or_eq_false_iff,Bool.and_eq_false_iff] at hp) <;> (first | omega | (simp only [go_sem,hg,a82,a82r0,a82r1,a82r2,a82r3,a82r4,a82r5]; clear hg))) | (refine grdD_intro ?_ ?_ <;> intro hg <;> (have hp := hg; try simp only [decide_eq_true_eq,decide_eq_false_iff_not,beq_iff_eq,beq_eq_false_iff_ne,bne_iff_ne,bne_eq_false_iff_eq,Bool.not_eq_true',Bool.not_eq_false',Int.not_lt,Int.not_le,ne_eq,Bool.and_eq_true,Bool.or_eq_true,Bool.or_eq_false_iff,Bool.and_eq_false_iff] at hp) <;> (first | omega | (simp only [go_sem,hg,a82,a82r0,a82r1,a82r2,a82r3,a82r4,a82r5]; clear hg))) | (refine condC_intro ?_ ?_ <;> intro hg <;> (have hp := hg; try simp only [decide_eq_true_eq,decide_eq_false_iff_not,beq_iff_eq,beq_eq_false_iff_ne,bne_iff_ne,bne_eq_false_iff_eq,Bool.not_eq_true',Bool.not_eq_false',Int.not_lt,Int.not_le,ne_eq,Bool.and_eq_true,Bool.or_eq_true,Bool.or_eq_false_iff,Bool.and_eq_false_iff] at hp) <;> (first | omega | (simp only [go_sem,hg,a82,a82r0,a82r1,a82r2,a82r3,a82r4,a82r5]; clear hg))) | (refine condW_intro ?_ ?_ <;> intro hg <;> (have hp := hg; try simp only [decide_eq_true_eq,decide_eq_false_iff_not,beq_iff_eq,beq_eq_false_iff_ne,bne_iff_ne,bne_eq_false_iff_eq,Bool.not_eq_true',Bool.not_eq_false',Int.not_lt,Int.not_le,ne_eq,Bool.and_eq_true,Bool.or_eq_true,Bool.or_eq_false_iff,Bool.and_eq_false_iff] at hp) <;> (first | omega | (simp only [go_sem,hg,a82,a82r0,a82r1,a82r2,a82r3,a82r4,a82r5]; clear hg))))
  any_goals exact Cl.fin rfl ⟨by rw [hbad (by omega)], rfl⟩
  refine callC_det (length_ok y m (by omega) (by omega) (by omega)) rfl rfl ?_
  simp only [go_sem]
  refine condC_intro ?_ ?_ <;> intro hg1 <;> simp only [decide_eq_true_eq,decide_eq_false_iff_not,beq_iff_eq,beq_eq_false_iff_ne,bne_iff_ne,bne_eq_false_iff_eq,Bool.not_eq_true',Bool.not_eq_false',Int.not_lt,Int.not_le,ne_eq,Bool.and_eq_true,Bool.or_eq_true,Bool.or_eq_false_iff,Bool.and_eq_false_iff] at hg1 <;> simp only [go_sem,a82,a82r0,a82r1,a82r2,a82r3,a82r4,a82r5]
  · exact Cl.fin rfl ⟨by rw [hbad (by omega)], rfl⟩
  · have hl := lenP_bd (y := y) (m := m) (by omega) (by omega)
    refine callC_det (number_ok y m d (by omega) (by omega) (by omega) (by omega) (by omega) (by omega)) rfl rfl ?_
    simp only [go_sem]
    exact Cl.fin rfl ⟨by rw [dayP, if_pos (by omega)], rfl⟩

def okD (d : Int) : Prop := 0 ≤ d ∧ d ≤ 84005
instance (d : Int) : Decidable (okD d) := by unfold okD; infer_instance
theorem date_okc (d : Int) : AFn Tryz.prog 68 [.int .i64 d] [] (fun v rs => v = (if okD d then .tup [.int .i64 (yearP d), .int .i64 (dateM d).1, .int .i64 ((dateM d).2 + 1), .bool true] else .tup [.int .i64 0, .int .i64 0, .int .i64 0, .bool false]) ∧ rs = []) := by
  refine afn Tryz.func68 a68_ok (by simp [a68]) ?_
  simp only [go_sem,a68,a68r0,a68r1,a68r2,a68r3,a68r4,a68r5,a68r6,a68r7,a68r8,a68r9]
  refine callC_det (valid_ok d) rfl rfl ?_
  simp only [go_sem]
  refine condC_intro ?_ ?_ <;> intro hg1 <;> simp only [decide_eq_true_eq,decide_eq_false_iff_not,beq_iff_eq,beq_eq_false_iff_ne,bne_iff_ne,bne_eq_false_iff_eq,Bool.not_eq_true',Bool.not_eq_false',Int.not_lt,Int.not_le,ne_eq,Bool.and_eq_true,Bool.or_eq_true,Bool.or_eq_false_iff,Bool.and_eq_false_iff] at hg1 <;> simp only [go_sem,a68,a68r0,a68r1,a68r2,a68r3,a68r4,a68r5,a68r6,a68r7,a68r8,a68r9]
  · exact Cl.fin rfl ⟨by rw [if_neg (show ¬ okD d from hg1)], rfl⟩
  rw [if_pos (show okD d from hg1)]
  obtain ⟨a, b, c, e⟩ := year_ok (d := d) (by omega) (by omega)
  have hbr := begin_range (y := yearP d) (by omega) (by omega)
  rw [begin_succ] at b
  refine callC_det (yearOf_ok d (by omega) (by omega)) rfl rfl ?_
  simp only [go_sem]
  refine callC_det (begin_ok (yearP d) (by omega) (by omega)) rfl rfl ?_
  simp only [go_sem]
  rw [wrap_i64 (by omega) (by omega)]
  have hdm : dateM d = monF 12 (yearP d) 1 (d - beginP (yearP d)) := rfl
  generalize yearP d = y at *
  refine avc_loop (fun env rows => ∃ (k m : Nat) (r : Int), dateM d = monF k y m r ∧ 1 ≤ m ∧ m ≤ 12 ∧ 12 ≤ m + k ∧ 0 ≤ r ∧ r ≤ 400 ∧ r < sumL y 12 - sumL y (m - 1) ∧ env = [(6, .int .i64 y), (7, .int .i64 r), (8, .int .i64 m)] ∧ rows = [])
    (fun env _ => match slot env 8 with | .int _ j => (13 - j).toNat | _ => 0) ?_ ?_
  · have h12 := sumL_bd y 12 (by omega)
    exact Cl.here ⟨12, 1, _, hdm, by omega, by omega, by omega, by omega, by omega, by show _ < sumL y 12 - 0; omega, rfl, rfl⟩
  · rintro env rows ⟨k, m, r, hm, h1, h2, h3, h4, h5, h6, rfl, rfl⟩
    have hl := lenP_bd (y := y) (m := m) (by omega) (by omega)
    obtain ⟨j, rfl⟩ : ∃ j, m = j + 1 := ⟨m - 1, by omega⟩
    simp only [Nat.add_sub_cancel] at h6
    have hs : sumL y (j + 1) = sumL y j + lenP y (((j + 1 : Nat) : Int)) := rfl
    simp only [go_sem,a68,a68r0,a68r1,a68r2,a68r3,a68r4,a68r5,a68r6,a68r7,a68r8,a68r9]
    refine callC_det (length_ok y ((j + 1 : Nat) : Int) (by omega) (by omega) (by omega)) rfl rfl ?_
    simp only [go_sem]
    refine condC_intro ?_ ?_ <;> intro hg2 <;> simp only [decide_eq_true_eq,decide_eq_false_iff_not,beq_iff_eq,beq_eq_false_iff_ne,bne_iff_ne,bne_eq_false_iff_eq,Bool.not_eq_true',Bool.not_eq_false',Int.not_lt,Int.not_le,ne_eq,Bool.and_eq_true,Bool.or_eq_true,Bool.or_eq_false_iff,Bool.and_eq_false_iff] at hg2 <;> simp only [go_sem,a68,a68r0,a68r1,a68r2,a68r3,a68r4,a68r5,a68r6,a68r7,a68r8,a68r9]
    · refine callC_det (length_ok y ((j + 1 : Nat) : Int) (by omega) (by omega) (by omega)) rfl rfl ?_
      simp only [go_sem]
      rw [wrap_i64 (by omega) (by omega), wrap_i64 (by omega) (by omega)]
      have hj : j + 1 < 12 := by
        rcases Nat.lt_or_ge (j + 1) 12 with h | h
        · exact h
        · exfalso
          have hj' : j = 11 := by omega
          subst hj'
          have e12 : sumL y 12 = sumL y (11 + 1) := rfl
          omega
      obtain ⟨k, rfl⟩ : ∃ i, k = i + 1 := ⟨k - 1, by omega⟩
      rw [monF, if_pos hg2] at hm
      refine Cl.here ⟨⟨k, j + 2, _, hm, by omega, by omega, by omega, by omega, by omega, by simp only [show j + 2 - 1 = j + 1 from rfl]; omega, rfl, rfl⟩, ?_⟩
      simp only [go_sem]
      omega
    · rw [wrap_i64 (by omega) (by omega)]
      have hm2 : dateM d = (((j + 1 : Nat) : Int), r) := by
        rw [hm]
        cases k with
        | zero => rfl
        | succ k => rw [monF, if_neg (by omega)]
      exact Cl.fin rfl ⟨by rw [hm2], rfl⟩

def wkdP (d : Int) : Int := if okD d then wdP d else -1
def monthP (d : Int) : Int := if okD d then (yearP d - 1970) * 12 + (dateM d).1 - 1 else -1
theorem Month_ok (d : Int) : AFn Tryz.prog 67 [.int .i64 d] [] (fun v rs => v = .int .i64 (monthP d) ∧ rs = []) := by
  refine afn Tryz.func67 a67_ok (by simp [a67]) ?_
  simp only [go_sem,a67,a67r0,a67r1,a67r2,a67r3,a67r4]
  by_cases hd : okD d
  · have hA := date_okc d
    rw [if_pos hd] at hA
    obtain ⟨m, r, e1, e2, e3, _⟩ := date_ok (d := d) hd.1 (by have := hd.2; omega)
    obtain ⟨_, _, y1, y2⟩ := year_ok (d := d) hd.1 (by have := hd.2; omega)
    have hmp : monthP d = (yearP d - 1970) * 12 + m - 1 := by rw [monthP, if_pos hd, e1]
    rw [e1] at hA
    refine callC_det hA rfl rfl ?_
    simp only [go_sem]
    rw [wrap_i64 (x := yearP d - 1970) (by omega) (by omega), wrap_i64 (x := (yearP d - 1970) * 12) (by omega) (by omega), wrap_i64 (x := (yearP d - 1970) * 12 + m) (by omega) (by omega), wrap_i64 (by omega) (by omega)]
    exact Cl.fin rfl ⟨by rw [hmp], rfl⟩
  · have hA := date_okc d
    rw [if_neg hd] at hA
    refine callC_det hA rfl rfl ?_
    simp only [go_sem]
    exact Cl.fin rfl ⟨by rw [monthP, if_neg hd], rfl⟩

def okM (m : Int) : Prop := 0 ≤ m ∧ m ≤ 2759
instance (d : Int) : Decidable (okM d) := by unfold okM; infer_instance
def firstP (m : Int) : Int := numP (1970 + m / 12) (m % 12 + 1) 1
theorem First_ok (m : Int) : AFn Tryz.prog 65 [.int .i64 m] [] (fun v rs => v = (if okM m then .tup [.int .i64 (firstP m), .bool true] else .tup [.int .i64 0, .bool false]) ∧ rs = []) := by
  refine afn Tryz.func65 a65_ok (by simp [a65]) ?_
  simp only [go_sem,a65,a65r0,a65r1,a65r2,a65r3]
  repeat' (first | (refine grdC_intro ?_ ?_ <;> intro hg <;> (have hp := hg; try simp only [decide_eq_true_eq,decide_eq_false_iff_not,beq_iff_eq,beq_eq_false_iff_ne,bne_iff_ne,bne_eq_false_iff_eq,Bool.not_eq_true',Bool.not_eq_false',Int.not_lt,Int.not_le,ne_eq,Bool.and_eq_true,Bool.or_eq_true,Bool.or_eq_false_iff,Bool.and_eq_false_iff] at hp) <;> (first | omega | (simp only [go_sem,hg,a65,a65r0,a65r1,a65r2,a65r3]; clear hg))) | (refine grdD_intro ?_ ?_ <;> intro hg <;> (have hp := hg; try simp only [decide_eq_true_eq,decide_eq_false_iff_not,beq_iff_eq,beq_eq_false_iff_ne,bne_iff_ne,bne_eq_false_iff_eq,Bool.not_eq_true',Bool.not_eq_false',Int.not_lt,Int.not_le,ne_eq,Bool.and_eq_true,Bool.or_eq_true,Bool.or_eq_false_iff,Bool.and_eq_false_iff] at hp) <;> (first | omega | (simp only [go_sem,hg,a65,a65r0,a65r1,a65r2,a65r3]; clear hg))) | (refine condC_intro ?_ ?_ <;> intro hg <;> (have hp := hg; try simp only [decide_eq_true_eq,decide_eq_false_iff_not,beq_iff_eq,beq_eq_false_iff_ne,bne_iff_ne,bne_eq_false_iff_eq,Bool.not_eq_true',Bool.not_eq_false',Int.not_lt,Int.not_le,ne_eq,Bool.and_eq_true,Bool.or_eq_true,Bool.or_eq_false_iff,Bool.and_eq_false_iff] at hp) <;> (first | omega | (simp only [go_sem,hg,a65,a65r0,a65r1,a65r2,a65r3]; clear hg))) | (refine condW_intro ?_ ?_ <;> intro hg <;> (have hp := hg; try simp only [decide_eq_true_eq,decide_eq_false_iff_not,beq_iff_eq,beq_eq_false_iff_ne,bne_iff_ne,bne_eq_false_iff_eq,Bool.not_eq_true',Bool.not_eq_false',Int.not_lt,Int.not_le,ne_eq,Bool.and_eq_true,Bool.or_eq_true,Bool.or_eq_false_iff,Bool.and_eq_false_iff] at hp) <;> (first | omega | (simp only [go_sem,hg,a65,a65r0,a65r1,a65r2,a65r3]; clear hg))))
  any_goals exact Cl.fin rfl ⟨by rw [if_neg (by unfold okM; omega)], rfl⟩
  rw [Int.tdiv_eq_ediv_of_nonneg (by omega), Int.tmod_eq_emod_of_nonneg (by omega), wrap_i64 (x := m / 12) (by omega) (by omega), wrap_i64 (x := 1970 + m / 12) (by omega) (by omega), wrap_i64 (x := m % 12 + 1) (by omega) (by omega)]
  refine ⟨by decide, by decide, ?_⟩
  refine callC_det (number_ok (1970 + m / 12) (m % 12 + 1) 1 (by omega) (by omega) (by omega) (by omega) (by omega) (by omega)) rfl rfl ?_
  simp only [go_sem]
  exact Cl.fin rfl ⟨by rw [if_pos (show okM m by unfold okM; omega)]; rfl, rfl⟩

def lengthP (m : Int) : Int := if okM m then lenP (1970 + m / 12) (m % 12 + 1) else 0
theorem Length_ok (m : Int) : AFn Tryz.prog 66 [.int .i64 m] [] (fun v rs => v = .int .i64 (lengthP m) ∧ rs = []) := by
  refine afn Tryz.func66 a66_ok (by simp [a66]) ?_
  simp only [go_sem,a66,a66r0,a66r1,a66r2,a66r3]
  repeat' (first | (refine grdC_intro ?_ ?_ <;> intro hg <;> (have hp := hg; try simp only [decide_eq_true_eq,decide_eq_false_iff_not,beq_iff_eq,beq_eq_false_iff_ne,bne_iff_ne,bne_eq_false_iff_eq,Bool.not_eq_true',Bool.not_eq_false',Int.not_lt,Int.not_le,ne_eq,Bool.and_eq_true,Bool.or_eq_true,Bool.or_eq_false_iff,Bool.and_eq_false_iff] at hp) <;> (first | omega | (simp only [go_sem,hg,a66,a66r0,a66r1,a66r2,a66r3]; clear hg))) | (refine grdD_intro ?_ ?_ <;> intro hg <;> (have hp := hg; try simp only [decide_eq_true_eq,decide_eq_false_iff_not,beq_iff_eq,beq_eq_false_iff_ne,bne_iff_ne,bne_eq_false_iff_eq,Bool.not_eq_true',Bool.not_eq_false',Int.not_lt,Int.not_le,ne_eq,Bool.and_eq_true,Bool.or_eq_true,Bool.or_eq_false_iff,Bool.and_eq_false_iff] at hp) <;> (first | omega | (simp only [go_sem,hg,a66,a66r0,a66r1,a66r2,a66r3]; clear hg))) | (refine condC_intro ?_ ?_ <;> intro hg <;> (have hp := hg; try simp only [decide_eq_true_eq,decide_eq_false_iff_not,beq_iff_eq,beq_eq_false_iff_ne,bne_iff_ne,bne_eq_false_iff_eq,Bool.not_eq_true',Bool.not_eq_false',Int.not_lt,Int.not_le,ne_eq,Bool.and_eq_true,Bool.or_eq_true,Bool.or_eq_false_iff,Bool.and_eq_false_iff] at hp) <;> (first | omega | (simp only [go_sem,hg,a66,a66r0,a66r1,a66r2,a66r3]; clear hg))) | (refine condW_intro ?_ ?_ <;> intro hg <;> (have hp := hg; try simp only [decide_eq_true_eq,decide_eq_false_iff_not,beq_iff_eq,beq_eq_false_iff_ne,bne_iff_ne,bne_eq_false_iff_eq,Bool.not_eq_true',Bool.not_eq_false',Int.not_lt,Int.not_le,ne_eq,Bool.and_eq_true,Bool.or_eq_true,Bool.or_eq_false_iff,Bool.and_eq_false_iff] at hp) <;> (first | omega | (simp only [go_sem,hg,a66,a66r0,a66r1,a66r2,a66r3]; clear hg))))
  any_goals exact Cl.fin rfl ⟨by rw [lengthP, if_neg (by unfold okM; omega)], rfl⟩
  rw [Int.tdiv_eq_ediv_of_nonneg (by omega), Int.tmod_eq_emod_of_nonneg (by omega), wrap_i64 (x := m / 12) (by omega) (by omega), wrap_i64 (x := 1970 + m / 12) (by omega) (by omega), wrap_i64 (x := m % 12 + 1) (by omega) (by omega)]
  refine ⟨by decide, by decide, ?_⟩
  refine callC_det (length_ok (1970 + m / 12) (m % 12 + 1) (by omega) (by omega) (by omega)) rfl rfl ?_
  simp only [go_sem]
  exact Cl.fin rfl ⟨by rw [lengthP, if_pos (show okM m by unfold okM; omega)], rfl⟩

end Go.Proofs.YtlanehcihoiglaaGreatDoor
