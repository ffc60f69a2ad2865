/- The calendar: the walk through days, months and years. -/
import Derived.Test.YtefemdpicjgkeaaGreatDoorZ3Cal
set_option linter.unusedSimpArgs false
set_option linter.unusedVariables false
set_option linter.unusedSectionVars false
namespace Go.Proofs.YtefemdpicjgkeaaGreatDoor
open Go Go.Abs
set_option linter.unusedSimpArgs false

theorem leaps_ok (y : Int) (h0 : 0 ≤ y) (h1 : y ≤ 1000000) : AFn Tryz.prog 92 [.int .i64 y] [] (fun v rs => v = .int .i64 (leapsP y) ∧ rs = []) := by
  refine afn Tryz.func92 a92_ok (by simp [a92]) ?_
  simp only [go_sem,a92,a92r0,a92r1]
  simp only [Int.tdiv_eq_ediv_of_nonneg h0]
  rw [wrap_i64 (x := y / 4) (by omega) (by omega), wrap_i64 (x := y / 100) (by omega) (by omega), wrap_i64 (x := y / 400) (by omega) (by omega), wrap_i64 (x := y / 4 - y / 100) (by omega) (by omega), wrap_i64 (by omega) (by omega)]
  refine ⟨by decide, by decide, by decide, ?_⟩
  exact Cl.fin rfl ⟨by rw [leapsP], rfl⟩

theorem begin_ok (y : Int) (h0 : 1 ≤ y) (h1 : y ≤ 100000) : AFn Tryz.prog 78 [.int .i64 y] [] (fun v rs => v = .int .i64 (beginP y) ∧ rs = []) := by
  refine afn Tryz.func78 a78_ok (by simp [a78]) ?_
  simp only [go_sem,a78,a78r0,a78r1]
  rw [wrap_i64 (x := y - 1) (by omega) (by omega), wrap_i64 (x := y - 1970) (by omega) (by omega), wrap_i64 (by omega) (by omega)]
  refine callC_det (leaps_ok (y - 1) (by omega) (by omega)) rfl rfl ?_
  have hl : 0 ≤ leapsP (y - 1) ∧ leapsP (y - 1) ≤ 100000 := by simp only [leapsP]; omega
  have hb : beginP y = 365 * (y - 1970) + leapsP (y - 1) - leapsP 1969 := rfl
  rw [hb]
  generalize leapsP (y - 1) = a at hl ⊢
  simp only [go_sem]
  rw [wrap_i64 (by omega) (by omega)]
  refine callC_det (leaps_ok 1969 (by omega) (by omega)) rfl rfl ?_
  rw [show leapsP 1969 = 477 from rfl]
  simp only [go_sem]
  rw [wrap_i64 (by omega) (by omega)]
  exact Cl.fin rfl ⟨rfl, rfl⟩

theorem valid_ok (d : Int) : AFn Tryz.prog 76 [.int .i64 d] [] (fun v rs => v = .bool (decide (0 ≤ d ∧ d ≤ 84005)) ∧ rs = []) := by
  refine afn Tryz.func76 a76_ok (by simp [a76]) ?_
  simp only [go_sem,a76,a76r0,a76r1]
  repeat' (first | (refine grdC_intro ?_ ?_ <;> intro hg <;> (have hp := hg; try simp only [decide_eq_true_eq,decide_eq_false_iff_not,beq_iff_eq,beq_eq_false_iff_ne,bne_iff_ne,bne_eq_false_iff_eq,Bool.not_eq_true',Bool.not_eq_false',Int.not_lt,Int.not_le,ne_eq,Bool.and_eq_true,Bool.or_eq_true,Bool.or_eq_false_iff,Bool.and_eq_false_iff] at hp) <;> (first | omega | (simp only [go_sem,hg,a76,a76r0,a76r1]; clear hg))) | (refine grdD_intro ?_ ?_ <;> intro hg <;> (have hp := hg; try simp only [decide_eq_true_eq,decide_eq_false_iff_not,beq_iff_eq,beq_eq_false_iff_ne,bne_iff_ne,bne_eq_false_iff_eq,Bool.not_eq_true',Bool.not_eq_false',Int.not_lt,Int.not_le,ne_eq,Bool.and_eq_true,Bool.or_eq_true,Bool.or_eq_false_iff,Bool.and_eq_false_iff] at hp) <;> (first | omega | (simp only [go_sem,hg,a76,a76r0,a76r1]; clear hg))) | (refine condC_intro ?_ ?_ <;> intro hg <;> (have hp := hg; try simp only [decide_eq_true_eq,decide_eq_false_iff_not,beq_iff_eq,beq_eq_false_iff_ne,bne_iff_ne,bne_eq_false_iff_eq,Bool.not_eq_true',Bool.not_eq_false',Int.not_lt,Int.not_le,ne_eq,Bool.and_eq_true,Bool.or_eq_true,Bool.or_eq_false_iff,Bool.and_eq_false_iff] at hp) <;> (first | omega | (simp only [go_sem,hg,a76,a76r0,a76r1]; clear hg))) | (refine condW_intro ?_ ?_ <;> intro hg <;> (have hp := hg; try simp only [decide_eq_true_eq,decide_eq_false_iff_not,beq_iff_eq,beq_eq_false_iff_ne,bne_iff_ne,bne_eq_false_iff_eq,Bool.not_eq_true',Bool.not_eq_false',Int.not_lt,Int.not_le,ne_eq,Bool.and_eq_true,Bool.or_eq_true,Bool.or_eq_false_iff,Bool.and_eq_false_iff] at hp) <;> (first | omega | (simp only [go_sem,hg,a76,a76r0,a76r1]; clear hg))))
  all_goals (refine Cl.fin rfl ⟨congrArg AVal.bool ?_, rfl⟩; rw [Bool.eq_iff_iff]; simp only [decide_eq_true_eq, decide_eq_false_iff_not, beq_iff_eq, beq_eq_false_iff_ne, bne_iff_ne, bne_eq_false_iff_eq, Bool.not_eq_true', Bool.not_eq_false', Int.not_lt, Int.not_le, ne_eq, Bool.and_eq_true, Bool.or_eq_true, Bool.or_eq_false_iff, Bool.and_eq_false_iff, Bool.false_eq_true, false_iff]; omega)

def wdP (d : Int) : Int := (d + 3) % 7
theorem tmod7 (x : Int) : -7 < x.tmod 7 ∧ x.tmod 7 < 7 ∧ (x.tmod 7 + 7) % 7 = x % 7 := by
  rw [Int.tmod_eq_emod]
  split <;> omega
theorem weekday_ok (d : Int) (h0 : -1000000 ≤ d) (h1 : d ≤ 1000000) : AFn Tryz.prog 101 [.int .i64 d] [] (fun v rs => v = .int .i64 (wdP d) ∧ rs = []) := by
  refine afn Tryz.func101 a101_ok (by simp [a101]) ?_
  obtain ⟨a, b, c⟩ := tmod7 (d + 3)
  simp only [go_sem,a101,a101r0,a101r1]
  rw [wrap_i64 (x := d + 3) (by omega) (by omega), wrap_i64 (by omega) (by omega), Int.tmod_eq_emod_of_nonneg (a := (d + 3).tmod 7 + 7) (by omega), c]
  exact ⟨by decide, by decide, Cl.fin rfl ⟨rfl, rfl⟩⟩

theorem yearOf_ok (d : Int) (h0 : 0 ≤ d) (h1 : d ≤ 90000) : AFn Tryz.prog 77 [.int .i64 d] [] (fun v rs => v = .int .i64 (yearP d) ∧ rs = []) := by
  refine afn Tryz.func77 a77_ok (by simp [a77]) ?_
  simp only [go_sem,a77,a77r0,a77r1,a77r2,a77r3,a77r4]
  refine ⟨by decide, ?_⟩
  rw [Int.tdiv_eq_ediv_of_nonneg h0, wrap_i64 (x := d / 366) (by omega) (by omega), wrap_i64 (by omega) (by omega)]
  refine avc_loop (fun env rows => ∃ (k : Nat) (y : Int), yearP d = yearF k y d ∧ 1970 ≤ y ∧ y + k ≥ 2250 ∧ y ≤ 2240 ∧ beginP y ≤ d ∧ env = [(0, .int .i64 d), (3, .int .i64 y)] ∧ rows = [])
    (fun env _ => match slot env 3 with | .int _ j => (3000 - j).toNat | _ => 0) ?_ ?_
  · have hb := begin_bd (y := 1970 + d / 366) (by omega) (by omega)
    exact Cl.here ⟨400, 1970 + d / 366, rfl, by omega, by omega, by omega, by omega, rfl, rfl⟩
  · rintro env rows ⟨k, y, hy, h2, h3, h4, h5, rfl, rfl⟩
    simp only [go_sem,a77,a77r0,a77r1,a77r2,a77r3,a77r4]
    rw [wrap_i64 (by omega) (by omega)]
    refine callC_det (begin_ok (y + 1) (by omega) (by omega)) rfl rfl ?_
    simp only [go_sem]
    obtain ⟨k, rfl⟩ : ∃ j, k = j + 1 := ⟨k - 1, by omega⟩
    rw [yearF] at hy
    refine condC_intro ?_ ?_ <;> intro hg1 <;> simp only [decide_eq_true_eq,decide_eq_false_iff_not,beq_iff_eq,beq_eq_false_iff_ne,bne_iff_ne,bne_eq_false_iff_eq,Bool.not_eq_true',Bool.not_eq_false',Int.not_lt,Int.not_le,ne_eq,Bool.and_eq_true,Bool.or_eq_true,Bool.or_eq_false_iff,Bool.and_eq_false_iff] at hg1 <;> simp only [go_sem,a77,a77r0,a77r1,a77r2,a77r3,a77r4]
    · rw [if_pos hg1] at hy
      have hb := begin_bd (y := y + 1) (by omega) (by omega)
      rw [wrap_i64 (by omega) (by omega)]
      refine Cl.here ⟨⟨k, y + 1, hy, by omega, by omega, by omega, hg1, rfl, rfl⟩, ?_⟩
      simp only [go_sem]
      omega
    · rw [if_neg (by omega)] at hy
      exact Cl.fin rfl ⟨by rw [hy], rfl⟩

theorem sumL_bd (y : Int) : ∀ k : Nat, k ≤ 12 → 28 * k ≤ sumL y k ∧ sumL y k ≤ 31 * k
  | 0, _ => by simp [sumL]
  | k + 1, h => by
    have ih := sumL_bd y k (by omega)
    have hl := lenP_bd (y := y) (m := k + 1) (by omega) (by omega)
    rw [sumL]; omega
theorem begin_range {y : Int} (h0 : 1969 ≤ y) (h1 : y ≤ 2300) : -1000 ≤ beginP y ∧ beginP y ≤ 200000 := by
  simp only [beginP, leapsP]; omega
theorem number_ok (y m d : Int) (h0 : 1970 ≤ y) (h1 : y ≤ 2300) (h2 : 1 ≤ m) (h3 : m ≤ 12) (h4 : -1000 ≤ d) (h5 : d ≤ 1000) : AFn Tryz.prog 102 [.int .i64 y, .int .i64 m, .int .i64 d] [] (fun v rs => v = .int .i64 (numP y m d) ∧ rs = []) := by
  refine afn Tryz.func102 a102_ok (by simp [a102]) ?_
  have hbr := begin_range (y := y) (by omega) h1
  simp only [go_sem,a102,a102r0,a102r1,a102r2,a102r3,a102r4,a102r5,a102r6]
  refine callC_det (begin_ok y (by omega) (by omega)) rfl rfl ?_
  simp only [go_sem]
  refine avc_loop (fun env rows => ∃ (k : Nat), (k : Int) + 1 ≤ m ∧ env = [(0, .int .i64 y), (1, .int .i64 m), (2, .int .i64 d), (7, .int .i64 (beginP y + sumL y k)), (8, .int .i64 (k + 1))] ∧ rows = [])
    (fun env _ => match slot env 8 with | .int _ j => (m - j).toNat | _ => 0) ?_ ?_
  · exact Cl.here ⟨0, by omega, by simp [sumL], rfl⟩
  · rintro env rows ⟨k, hk, rfl, rfl⟩
    have hsb := sumL_bd y k (by omega)
    simp only [go_sem,a102,a102r0,a102r1,a102r2,a102r3,a102r4,a102r5,a102r6]
    refine condC_intro ?_ ?_ <;> intro hg1 <;> simp only [decide_eq_true_eq,decide_eq_false_iff_not,beq_iff_eq,beq_eq_false_iff_ne,bne_iff_ne,bne_eq_false_iff_eq,Bool.not_eq_true',Bool.not_eq_false',Int.not_lt,Int.not_le,ne_eq,Bool.and_eq_true,Bool.or_eq_true,Bool.or_eq_false_iff,Bool.and_eq_false_iff] at hg1 <;> simp only [go_sem,a102,a102r0,a102r1,a102r2,a102r3,a102r4,a102r5,a102r6]
    · have hl := lenP_bd (y := y) (m := k + 1) (by omega) (by omega)
      refine callC_det (length_ok y (k + 1) (by omega) (by omega) (by omega)) rfl rfl ?_
      simp only [go_sem]
      rw [wrap_i64 (x := (k : Int) + 1 + 1) (by omega) (by omega), wrap_i64 (by omega) (by omega)]
      refine Cl.here ⟨⟨k + 1, by omega, by rw [sumL, Int.add_assoc]; rfl, rfl⟩, ?_⟩
      simp only [go_sem]
      omega
    · rw [wrap_i64 (x := beginP y + sumL y k + d) (by omega) (by omega), wrap_i64 (by omega) (by omega)]
      exact Cl.fin rfl ⟨by rw [numP, show (m - 1).toNat = k from by omega], rfl⟩

def dayP (y m d : Int) : Int × Bool := if 1970 ≤ y ∧ y ≤ 2199 ∧ 1 ≤ m ∧ m ≤ 12 ∧ 1 ≤ d ∧ d ≤ lenP y m then (numP y m d, true) else (0, false)
theorem day_ok (y m d : Int) : AFn Tryz.prog 98 [.int .i64 y, .int .i64 m, .int .i64 d] [] (fun v rs => v = .tup [.int .i64 (dayP y m d).1, .bool (dayP y m d).2] ∧ rs = []) := by
  refine afn Tryz.func98 a98_ok (by simp [a98]) ?_
  have hbad : ¬ (1970 ≤ y ∧ y ≤ 2199 ∧ 1 ≤ m ∧ m ≤ 12 ∧ 1 ≤ d ∧ d ≤ lenP y m) → dayP y m d = (0, false) := fun h => by rw [dayP, if_neg h]
  simp only [go_sem,a98,a98r0,a98r1,a98r2,a98r3,a98r4,a98r5]
  repeat' (first | (refine grdC_intro ?_ ?_ <;> intro hg <;> (have hp := hg; try simp only [decide_eq_true_eq,decide_eq_false_iff_not,beq_iff_eq,beq_eq_false_iff_ne,bne_iff_ne,bne_eq_false_iff_eq,Bool.not_eq_true',Bool.not_eq_false',Int.not_lt,Int.not_le,ne_eq,Bool.and_eq_true,Bool.or_eq_true,Bool.or_eq_false_iff,Bool.and_eq_false_iff] at hp) <;> (first | omega | (simp only [go_sem,hg,a98,a98r0,a98r1,a98r2,a98r3,a98r4,a98r5]; clear hg))) | (refine grdD_intro ?_ ?_ <;> intro hg <;> (have hp := hg; try simp only [decide_eq_true_eq,decide_eq_false_iff_not,beq_iff_eq,beq_eq_false_iff_ne,bne_iff_ne,bne_eq_false_iff_eq,Bool.not_eq_true',Bool.not_eq_false',Int.not_lt,Int.not_le,ne_eq,Bool.and_eq_true,Bool.or_eq_true,Bool.or_eq_false_iff,Bool.and_eq_false_iff] at hp) <;> (first | omega | (simp only [go_sem,hg,a98,a98r0,a98r1,a98r2,a98r3,a98r4,a98r5]; clear hg))) | (refine condC_intro ?_ ?_ <;> intro hg <;> (have hp := hg; try simp only [decide_eq_true_eq,decide_eq_false_iff_not,beq_iff_eq,beq_eq_false_iff_ne,bne_iff_ne,bne_eq_false_iff_eq,Bool.not_eq_true',Bool.not_eq_false',Int.not_lt,Int.not_le,ne_eq,Bool.and_eq_true,Bool.or_eq_true,Bool.or_eq_false_iff,Bool.and_eq_false_iff] at hp) <;> (first | omega | (simp only [go_sem,hg,a98,a98r0,a98r1,a98r2,a98r3,a98r4,a98r5]; clear hg))) | (refine condW_intro ?_ ?_ <;> intro hg <;> (have hp := hg; try simp only [decide_eq_true_eq,decide_eq_false_iff_not,beq_iff_eq,beq_eq_false_iff_ne,bne_iff_ne,bne_eq_false_iff_eq,Bool.not_eq_true',Bool.not_eq_false',Int.not_lt,Int.not_le,ne_eq,Bool.and_eq_true,Bool.or_eq_true,Bool.or_eq_false_iff,Bool.and_eq_false_iff] at hp) <;> (first | omega | (simp only [go_sem,hg,a98,a98r0,a98r1,a98r2,a98r3,a98r4,a98r5]; clear hg))))
  any_goals exact Cl.fin rfl ⟨by rw [hbad (by omega)], rfl⟩
  refine callC_det (length_ok y m (by omega) (by omega) (by omega)) rfl rfl ?_
  simp only [go_sem]
  refine condC_intro ?_ ?_ <;> intro hg1 <;> simp only [decide_eq_true_eq,decide_eq_false_iff_not,beq_iff_eq,beq_eq_false_iff_ne,bne_iff_ne,bne_eq_false_iff_eq,Bool.not_eq_true',Bool.not_eq_false',Int.not_lt,Int.not_le,ne_eq,Bool.and_eq_true,Bool.or_eq_true,Bool.or_eq_false_iff,Bool.and_eq_false_iff] at hg1 <;> simp only [go_sem,a98,a98r0,a98r1,a98r2,a98r3,a98r4,a98r5]
  · exact Cl.fin rfl ⟨by rw [hbad (by omega)], rfl⟩
  · have hl := lenP_bd (y := y) (m := m) (by omega) (by omega)
    refine callC_det (number_ok y m d (by omega) (by omega) (by omega) (by omega) (by omega) (by omega)) rfl rfl ?_
    simp only [go_sem]
    exact Cl.fin rfl ⟨by rw [dayP, if_pos (by omega)], rfl⟩

def okD (d : Int) : Prop := 0 ≤ d ∧ d ≤ 84005
instance (d : Int) : Decidable (okD d) := by unfold okD; infer_instance
theorem date_okc (d : Int) : AFn Tryz.prog 60 [.int .i64 d] [] (fun v rs => v = (if okD d then .tup [.int .i64 (yearP d), .int .i64 (dateM d).1, .int .i64 ((dateM d).2 + 1), .bool true] else .tup [.int .i64 0, .int .i64 0, .int .i64 0, .bool false]) ∧ rs = []) := by
  refine afn Tryz.func60 a60_ok (by simp [a60]) ?_
  simp only [go_sem,a60,a60r0,a60r1,a60r2,a60r3,a60r4,a60r5,a60r6,a60r7,a60r8,a60r9]
  refine callC_det (valid_ok d) rfl rfl ?_
  simp only [go_sem]
  refine condC_intro ?_ ?_ <;> intro hg1 <;> simp only [decide_eq_true_eq,decide_eq_false_iff_not,beq_iff_eq,beq_eq_false_iff_ne,bne_iff_ne,bne_eq_false_iff_eq,Bool.not_eq_true',Bool.not_eq_false',Int.not_lt,Int.not_le,ne_eq,Bool.and_eq_true,Bool.or_eq_true,Bool.or_eq_false_iff,Bool.and_eq_false_iff] at hg1 <;> simp only [go_sem,a60,a60r0,a60r1,a60r2,a60r3,a60r4,a60r5,a60r6,a60r7,a60r8,a60r9]
  · exact Cl.fin rfl ⟨by rw [if_neg (show ¬ okD d from hg1)], rfl⟩
  rw [if_pos (show okD d from hg1)]
  obtain ⟨a, b, c, e⟩ := year_ok (d := d) (by omega) (by omega)
  have hbr := begin_range (y := yearP d) (by omega) (by omega)
  rw [begin_succ] at b
  refine callC_det (yearOf_ok d (by omega) (by omega)) rfl rfl ?_
  simp only [go_sem]
  refine callC_det (begin_ok (yearP d) (by omega) (by omega)) rfl rfl ?_
  simp only [go_sem]
  rw [wrap_i64 (by omega) (by omega)]
  have hdm : dateM d = monF 12 (yearP d) 1 (d - beginP (yearP d)) := rfl
  generalize yearP d = y at *
  refine avc_loop (fun env rows => ∃ (k m : Nat) (r : Int), dateM d = monF k y m r ∧ 1 ≤ m ∧ m ≤ 12 ∧ 12 ≤ m + k ∧ 0 ≤ r ∧ r ≤ 400 ∧ r < sumL y 12 - sumL y (m - 1) ∧ env = [(6, .int .i64 y), (7, .int .i64 r), (8, .int .i64 m)] ∧ rows = [])
    (fun env _ => match slot env 8 with | .int _ j => (13 - j).toNat | _ => 0) ?_ ?_
  · have h12 := sumL_bd y 12 (by omega)
    exact Cl.here ⟨12, 1, _, hdm, by omega, by omega, by omega, by omega, by omega, by show _ < sumL y 12 - 0; omega, rfl, rfl⟩
  · rintro env rows ⟨k, m, r, hm, h1, h2, h3, h4, h5, h6, rfl, rfl⟩
    have hl := lenP_bd (y := y) (m := m) (by omega) (by omega)
    obtain ⟨j, rfl⟩ : ∃ j, m = j + 1 := ⟨m - 1, by omega⟩
    simp only [Nat.add_sub_cancel] at h6
    have hs : sumL y (j + 1) = sumL y j + lenP y (((j + 1 : Nat) : Int)) := rfl
    simp only [go_sem,a60,a60r0,a60r1,a60r2,a60r3,a60r4,a60r5,a60r6,a60r7,a60r8,a60r9]
    refine callC_det (length_ok y ((j + 1 : Nat) : Int) (by omega) (by omega) (by omega)) rfl rfl ?_
    simp only [go_sem]
    refine condC_intro ?_ ?_ <;> intro hg2 <;> simp only [decide_eq_true_eq,decide_eq_false_iff_not,beq_iff_eq,beq_eq_false_iff_ne,bne_iff_ne,bne_eq_false_iff_eq,Bool.not_eq_true',Bool.not_eq_false',Int.not_lt,Int.not_le,ne_eq,Bool.and_eq_true,Bool.or_eq_true,Bool.or_eq_false_iff,Bool.and_eq_false_iff] at hg2 <;> simp only [go_sem,a60,a60r0,a60r1,a60r2,a60r3,a60r4,a60r5,a60r6,a60r7,a60r8,a60r9]
    · refine callC_det (length_ok y ((j + 1 : Nat) : Int) (by omega) (by omega) (by omega)) rfl rfl ?_
      simp only [go_sem]
      rw [wrap_i64 (by omega) (by omega), wrap_i64 (by omega) (by omega)]
      have hj : j + 1 < 12 := by
        rcases Nat.lt_or_ge (j + 1) 12 with h | h
        · exact h
        · exfalso
          have hj' : j = 11 := by omega
          subst hj'
          have e12 : sumL y 12 = sumL y (11 + 1) := rfl
          omega
      obtain ⟨k, rfl⟩ : ∃ i, k = i + 1 := ⟨k - 1, by omega⟩
      rw [monF, if_pos hg2] at hm
      refine Cl.here ⟨⟨k, j + 2, _, hm, by omega, by omega, by omega, by omega, by omega, by simp only [show j + 2 - 1 = j + 1 from rfl]; omega, rfl, rfl⟩, ?_⟩
      simp only [go_sem]
      omega
    · rw [wrap_i64 (by omega) (by omega)]
      have hm2 : dateM d = (((j + 1 : Nat) : Int), r) := by
        rw [hm]
        cases k with
        | zero => rfl
        | succ k => rw [monF, if_neg (by omega)]
      exact Cl.fin rfl ⟨by rw [hm2], rfl⟩

def wkdP (d : Int) : Int := if okD d then wdP d else -1
def monthP (d : Int) : Int := if okD d then (yearP d - 1970) * 12 + (dateM d).1 - 1 else -1
def okM (m : Int) : Prop := 0 ≤ m ∧ m ≤ 2759
instance (d : Int) : Decidable (okM d) := by unfold okM; infer_instance
end Go.Proofs.YtefemdpicjgkeaaGreatDoor
