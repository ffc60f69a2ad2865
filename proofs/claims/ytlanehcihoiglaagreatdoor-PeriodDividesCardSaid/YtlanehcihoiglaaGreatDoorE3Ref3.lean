/- The reference of chapter 3: dates. -/
import Derived.Test.YtlanehcihoiglaaGreatDoorE3Ref2
set_option linter.unusedSimpArgs false
set_option linter.unusedVariables false
set_option linter.unusedSectionVars false
namespace Go.Proofs.YtlanehcihoiglaaGreatDoor
open Go Go.Abs
set_option linter.unusedSimpArgs false

theorem rDate_ok (d : Int) : AFn Tryz.prog 33 [.int .i64 d] [] (fun v rs => v = (if okD d then .tup [.int .i64 (yearP d), .int .i64 (dateM d).1, .int .i64 ((dateM d).2 + 1), .bool true] else .tup [.int .i64 0, .int .i64 0, .int .i64 0, .bool false]) ∧ rs = []) := by
  refine afn Tryz.func33 a33_ok (by simp [a33]) ?_
  simp only [go_sem,a33,a33r0,a33r1,a33r2,a33r3,a33r4,a33r5,a33r6,a33r7,a33r8,a33r9,a33r10,a33r11]
  refine callC_det (rInDays_ok d) rfl rfl ?_
  by_cases hd : okD d
  rotate_left
  · rw [decide_eq_false hd, if_neg hd]
    simp only [go_sem]
    exact Cl.fin rfl ⟨rfl, rfl⟩
  rw [decide_eq_true hd, if_pos hd]
  unfold okD at hd
  simp only [go_sem]
  refine ⟨by decide, ?_⟩
  rw [Int.tdiv_eq_ediv_of_nonneg (by omega), wrap_i64 (x := d / 366) (by omega) (by omega), wrap_i64 (by omega) (by omega)]
  refine avc_loop (fun env rows => ∃ (k : Nat) (y : Int), yearP d = yearF k y d ∧ 1970 ≤ y ∧ y + k ≥ 2250 ∧ y ≤ 2240 ∧ beginP y ≤ d ∧ env = [(0, .int .i64 d), (6, .int .i64 y)] ∧ rows = [])
    (fun env _ => match slot env 6 with | .int _ j => (3000 - j).toNat | _ => 0) ?_ ?_
  · have hb := begin_bd (y := 1970 + d / 366) (by omega) (by omega)
    exact Cl.here ⟨400, 1970 + d / 366, rfl, by omega, by omega, by omega, by omega, rfl, rfl⟩
  · rintro env rows ⟨k, y, hy, h2, h3, h4, h5, rfl, rfl⟩
    simp only [go_sem,a33,a33r0,a33r1,a33r2,a33r3,a33r4,a33r5,a33r6,a33r7,a33r8,a33r9,a33r10,a33r11]
    rw [wrap_i64 (by omega) (by omega)]
    refine callC_det (rbefore_ok (y + 1) (by omega) (by omega)) rfl rfl ?_
    simp only [go_sem]
    obtain ⟨k, rfl⟩ : ∃ j, k = j + 1 := ⟨k - 1, by omega⟩
    rw [yearF] at hy
    refine condC_intro ?_ ?_ <;> intro hg1 <;> simp only [decide_eq_true_eq,decide_eq_false_iff_not,beq_iff_eq,beq_eq_false_iff_ne,bne_iff_ne,bne_eq_false_iff_eq,Bool.not_eq_true',Bool.not_eq_false',Int.not_lt,Int.not_le,ne_eq,Bool.and_eq_true,Bool.or_eq_true,Bool.or_eq_false_iff,Bool.and_eq_false_iff] at hg1 <;> simp only [go_sem,a33,a33r0,a33r1,a33r2,a33r3,a33r4,a33r5,a33r6,a33r7,a33r8,a33r9,a33r10,a33r11]
    · rw [if_pos hg1] at hy
      have hb := begin_bd (y := y + 1) (by omega) (by omega)
      rw [wrap_i64 (by omega) (by omega)]
      refine Cl.here ⟨⟨k, y + 1, hy, by omega, by omega, by omega, hg1, rfl, rfl⟩, ?_⟩
      simp only [go_sem]
      omega
    · rw [if_neg (by omega)] at hy
      obtain ⟨a, b, c, e⟩ := year_ok (d := d) (by omega) (by omega)
      have hdm : dateM d = monF 12 (yearP d) 1 (d - beginP (yearP d)) := rfl
      rw [hy] at a b c e hdm ⊢
      have hbr := begin_range (y := y) (by omega) (by omega)
      rw [begin_succ] at b
      refine callC_det (rbefore_ok y (by omega) (by omega)) rfl rfl ?_
      simp only [go_sem]
      rw [wrap_i64 (by omega) (by omega)]
      clear hy h2 h3 h4 h5 hg1
      refine avc_loop (fun env rows => ∃ (k m : Nat) (r : Int), dateM d = monF k y m r ∧ 1 ≤ m ∧ m ≤ 12 ∧ 12 ≤ m + k ∧ 0 ≤ r ∧ r ≤ 400 ∧ r < sumL y 12 - sumL y (m - 1) ∧ env = [(6, .int .i64 y), (7, .int .i64 r), (8, .int .i64 m)] ∧ rows = [])
        (fun env _ => match slot env 8 with | .int _ j => (13 - j).toNat | _ => 0) ?_ ?_
      · have h12 := sumL_bd y 12 (by omega)
        exact Cl.here ⟨12, 1, _, hdm, by omega, by omega, by omega, by omega, by omega, by show _ < sumL y 12 - 0; omega, rfl, rfl⟩
      · rintro env rows ⟨k, m, r, hm, h1, h2, h3, h4, h5, h6, rfl, rfl⟩
        have hl := lenP_bd (y := y) (m := m) (by omega) (by omega)
        obtain ⟨j, rfl⟩ : ∃ j, m = j + 1 := ⟨m - 1, by omega⟩
        simp only [Nat.add_sub_cancel] at h6
        have hs : sumL y (j + 1) = sumL y j + lenP y (((j + 1 : Nat) : Int)) := rfl
        simp only [go_sem,a33,a33r0,a33r1,a33r2,a33r3,a33r4,a33r5,a33r6,a33r7,a33r8,a33r9,a33r10,a33r11]
        refine callC_det (rlen_ok y ((j + 1 : Nat) : Int) (by omega) (by omega) (by omega)) rfl rfl ?_
        simp only [go_sem]
        refine condC_intro ?_ ?_ <;> intro hg2 <;> simp only [decide_eq_true_eq,decide_eq_false_iff_not,beq_iff_eq,beq_eq_false_iff_ne,bne_iff_ne,bne_eq_false_iff_eq,Bool.not_eq_true',Bool.not_eq_false',Int.not_lt,Int.not_le,ne_eq,Bool.and_eq_true,Bool.or_eq_true,Bool.or_eq_false_iff,Bool.and_eq_false_iff] at hg2 <;> simp only [go_sem,a33,a33r0,a33r1,a33r2,a33r3,a33r4,a33r5,a33r6,a33r7,a33r8,a33r9,a33r10,a33r11]
        · refine callC_det (rlen_ok y ((j + 1 : Nat) : Int) (by omega) (by omega) (by omega)) rfl rfl ?_
          simp only [go_sem]
          rw [wrap_i64 (by omega) (by omega), wrap_i64 (by omega) (by omega)]
          have hj : j + 1 < 12 := by
            rcases Nat.lt_or_ge (j + 1) 12 with h | h
            · exact h
            · exfalso
              have hj' : j = 11 := by omega
              subst hj'
              have e12 : sumL y 12 = sumL y (11 + 1) := rfl
              omega
          obtain ⟨k, rfl⟩ : ∃ i, k = i + 1 := ⟨k - 1, by omega⟩
          rw [monF, if_pos hg2] at hm
          refine Cl.here ⟨⟨k, j + 2, _, hm, by omega, by omega, by omega, by omega, by omega, by simp only [show j + 2 - 1 = j + 1 from rfl]; omega, rfl, rfl⟩, ?_⟩
          simp only [go_sem]
          omega
        · rw [wrap_i64 (by omega) (by omega)]
          have hm2 : dateM d = (((j + 1 : Nat) : Int), r) := by
            rw [hm]
            cases k with
            | zero => rfl
            | succ k => rw [monF, if_neg (by omega)]
          exact Cl.fin rfl ⟨by rw [hm2], rfl⟩

theorem rShown_ok (d : Int) (h0 : -1000000 ≤ d) (h1 : d ≤ 1000000) : AFn Tryz.prog 73 [.int .i64 d] [] (fun v rs => v = .int .i64 (wdP d) ∧ rs = []) := by
  refine afn Tryz.func73 a73_ok (by simp [a73]) ?_
  obtain ⟨a, b, c⟩ := tmod7 (d + 3)
  simp only [go_sem,a73,a73r0,a73r1]
  rw [wrap_i64 (x := d + 3) (by omega) (by omega), wrap_i64 (by omega) (by omega), Int.tmod_eq_emod_of_nonneg (a := (d + 3).tmod 7 + 7) (by omega), c]
  exact ⟨by decide, by decide, Cl.fin rfl ⟨rfl, rfl⟩⟩
theorem rMonth_ok (d : Int) : AFn Tryz.prog 32 [.int .i64 d] [] (fun v rs => v = .int .i64 (monthP d) ∧ rs = []) := by
  refine afn Tryz.func32 a32_ok (by simp [a32]) ?_
  simp only [go_sem,a32,a32r0,a32r1,a32r2,a32r3,a32r4]
  by_cases hd : okD d
  · have hA := rDate_ok d
    rw [if_pos hd] at hA
    obtain ⟨m, r, e1, e2, e3, _⟩ := date_ok (d := d) hd.1 (by have := hd.2; omega)
    obtain ⟨_, _, y1, y2⟩ := year_ok (d := d) hd.1 (by have := hd.2; omega)
    have hmp : monthP d = (yearP d - 1970) * 12 + m - 1 := by rw [monthP, if_pos hd, e1]
    rw [e1] at hA
    refine callC_det hA rfl rfl ?_
    simp only [go_sem]
    rw [wrap_i64 (x := yearP d - 1970) (by omega) (by omega), wrap_i64 (x := (yearP d - 1970) * 12) (by omega) (by omega), wrap_i64 (x := (yearP d - 1970) * 12 + m) (by omega) (by omega), wrap_i64 (by omega) (by omega)]
    exact Cl.fin rfl ⟨by rw [hmp], rfl⟩
  · have hA := rDate_ok d
    rw [if_neg hd] at hA
    refine callC_det hA rfl rfl ?_
    simp only [go_sem]
    exact Cl.fin rfl ⟨by rw [monthP, if_neg hd], rfl⟩

end Go.Proofs.YtlanehcihoiglaaGreatDoor
