/- Names, windows, pieces: what is valid. -/
import Derived.Test.YtefemdpicjgkeaaGreatDoorZ8Cov
set_option linter.unusedSimpArgs false
set_option linter.unusedVariables false
set_option linter.unusedSectionVars false
namespace Go.Proofs.YtefemdpicjgkeaaGreatDoor
open Go Go.Abs
set_option linter.unusedSimpArgs false
set_option linter.unusedVariables false

/-- the byte i of a text -/
def byt (s : ByteArray) (i : Nat) : Nat := (s.data.getD i 0).toNat
def nbyte (c : Nat) : Bool := (decide (97 ≤ c) && decide (c ≤ 122)) || (decide (48 ≤ c) && decide (c ≤ 57)) || decide (c = 95)
def allB (s : ByteArray) (n : Nat) : Bool := (List.range n).all fun i => nbyte (byt s i)
def nameP (s : ByteArray) : Bool := decide (1 ≤ s.size) && decide (s.size ≤ 24) && decide (97 ≤ byt s 0) && decide (byt s 0 ≤ 122) && allB s s.size
theorem allB_succ (s : ByteArray) (n : Nat) : allB s (n + 1) = (allB s n && nbyte (byt s n)) := by
  unfold allB; rw [List.range_succ, List.all_append]; simp
theorem allB_no {s : ByteArray} {i n : Nat} (hi : i < n) (h : nbyte (byt s i) = false) : allB s n = false := by
  unfold allB
  rw [List.all_eq_false]
  exact ⟨i, List.mem_range.2 hi, by simp [h]⟩
theorem isName_ok (s : ByteArray) : AFn Tryz.prog 46 [.str s] [] (fun v rs => v = .bool (nameP s) ∧ rs = []) := by
  refine afn Tryz.func46 a46_ok (by simp [a46]) ?_
  have hb : ((s.data.getD 0 0).toNat : Int) = (byt s 0 : Int) := rfl
  unfold nameP
  simp only [go_sem,a46,a46r0,a46r1,a46r2,a46r3,a46r4,a46r5,a46r6,a46r7,a46r8,a46r9,a46r10]
  by_cases h1 : (s.size : Int) < 1
  · simp only [go_sem,h1]
    exact Cl.fin rfl ⟨by rw [show decide (1 ≤ s.size) = false from decide_eq_false (by omega)]; rfl, rfl⟩
  have h1' : (0 : Int) < s.size := by omega
  by_cases h2 : (s.size : Int) > 24
  · simp only [go_sem,h1,h2]
    exact Cl.fin rfl ⟨by rw [show decide (s.size ≤ 24) = false by simp; omega]; simp, rfl⟩
  simp only [go_sem,h1,h2,h1',Int.toNat_zero,hb]
  by_cases h3 : (byt s 0 : Int) < 97
  · simp only [go_sem,h3,h1',Int.toNat_zero,hb]
    exact Cl.fin rfl ⟨by rw [show decide (97 ≤ byt s 0) = false by simp; omega]; simp, rfl⟩
  simp only [go_sem,h3,h1',Int.toNat_zero,hb]
  by_cases h4 : (byt s 0 : Int) > 122
  · simp only [go_sem,h4]
    exact Cl.fin rfl ⟨by rw [show decide (byt s 0 ≤ 122) = false by simp; omega]; simp, rfl⟩
  simp only [go_sem,h4]
  have hx : (decide (1 ≤ s.size) && decide (s.size ≤ 24) && decide (97 ≤ byt s 0) && decide (byt s 0 ≤ 122) && allB s s.size) = allB s s.size := by
    rw [show decide (1 ≤ s.size) = true by simp; omega, show decide (s.size ≤ 24) = true by simp; omega, show decide (97 ≤ byt s 0) = true by simp; omega, show decide (byt s 0 ≤ 122) = true by simp; omega]; simp
  rw [hx]
  refine avc_loop (fun env rows => ∃ (i : Nat), i ≤ s.size ∧ allB s i = true ∧ env = [(0, .str s), (24, .int .i64 s.size), (25, .int .i64 i)] ∧ rows = [])
    (fun env _ => match slot env 25 with | .int _ j => (s.size - j).toNat | _ => 0) ?_ ?_
  · exact Cl.here ⟨0, by omega, rfl, rfl, rfl⟩
  · rintro env rows ⟨i, hi, hall, rfl, rfl⟩
    have hw : IntKind.i64.wrap ((i : Int) + 1) = ((i + 1 : Nat) : Int) := by rw [wrap_i64 (by omega) (by omega)]; omega
    simp only [go_sem,a46,a46r0,a46r1,a46r2,a46r3,a46r4,a46r5,a46r6,a46r7,a46r8,a46r9,a46r10]
    refine condC_intro ?_ ?_ <;> intro hg2 <;> simp only [decide_eq_true_eq,decide_eq_false_iff_not,beq_iff_eq,beq_eq_false_iff_ne,bne_iff_ne,bne_eq_false_iff_eq,Bool.not_eq_true',Bool.not_eq_false',Int.not_lt,Int.not_le,ne_eq,Bool.and_eq_true,Bool.or_eq_true,Bool.or_eq_false_iff,Bool.and_eq_false_iff] at hg2 <;> simp only [go_sem,a46,a46r0,a46r1,a46r2,a46r3,a46r4,a46r5,a46r6,a46r7,a46r8,a46r9,a46r10]
    · have hlt : i < s.size := by omega
      have hbi : ((s.data.getD i 0).toNat : Int) = (byt s i : Int) := rfl
      have i1 : (0 : Int) ≤ i := by omega
      have i2 : (i : Int) < s.size := by omega
      have hs := allB_succ s i
      rw [hall, Bool.true_and] at hs
      simp only [go_sem,i1,i2,Int.toNat_natCast,hbi]
      have bad : nbyte (byt s i) = false → allB s s.size = false := allB_no hlt
      by_cases n1 : nbyte (byt s i) = true
      · rw [n1] at hs
        unfold nbyte at n1
        have n2 : ¬ (((byt s i : Int) < 97 ∨ (byt s i : Int) > 122) ∧ ((byt s i : Int) < 48 ∨ (byt s i : Int) > 57) ∧ (byt s i : Int) ≠ 95) := by
          simp only [Bool.or_eq_true, Bool.and_eq_true, decide_eq_true_eq] at n1
          omega
        repeat' (first | (refine grdC_intro ?_ ?_ <;> intro hg <;> (have hp := hg; try simp only [decide_eq_true_eq,decide_eq_false_iff_not,beq_iff_eq,beq_eq_false_iff_ne,bne_iff_ne,bne_eq_false_iff_eq,Bool.not_eq_true',Bool.not_eq_false',Int.not_lt,Int.not_le,ne_eq,Bool.and_eq_true,Bool.or_eq_true,Bool.or_eq_false_iff,Bool.and_eq_false_iff] at hp) <;> (first | omega | (simp only [go_sem,hg,a46,a46r0,a46r1,a46r2,a46r3,a46r4,a46r5,a46r6,a46r7,a46r8,a46r9,a46r10,hw]; clear hg))) | (refine grdD_intro ?_ ?_ <;> intro hg <;> (have hp := hg; try simp only [decide_eq_true_eq,decide_eq_false_iff_not,beq_iff_eq,beq_eq_false_iff_ne,bne_iff_ne,bne_eq_false_iff_eq,Bool.not_eq_true',Bool.not_eq_false',Int.not_lt,Int.not_le,ne_eq,Bool.and_eq_true,Bool.or_eq_true,Bool.or_eq_false_iff,Bool.and_eq_false_iff] at hp) <;> (first | omega | (simp only [go_sem,hg,a46,a46r0,a46r1,a46r2,a46r3,a46r4,a46r5,a46r6,a46r7,a46r8,a46r9,a46r10,hw]; clear hg))) | (refine condC_intro ?_ ?_ <;> intro hg <;> (have hp := hg; try simp only [decide_eq_true_eq,decide_eq_false_iff_not,beq_iff_eq,beq_eq_false_iff_ne,bne_iff_ne,bne_eq_false_iff_eq,Bool.not_eq_true',Bool.not_eq_false',Int.not_lt,Int.not_le,ne_eq,Bool.and_eq_true,Bool.or_eq_true,Bool.or_eq_false_iff,Bool.and_eq_false_iff] at hp) <;> (first | omega | (simp only [go_sem,hg,a46,a46r0,a46r1,a46r2,a46r3,a46r4,a46r5,a46r6,a46r7,a46r8,a46r9,a46r10,hw]; clear hg))) | (refine condW_intro ?_ ?_ <;> intro hg <;> (have hp := hg; try simp only [decide_eq_true_eq,decide_eq_false_iff_not,beq_iff_eq,beq_eq_false_iff_ne,bne_iff_ne,bne_eq_false_iff_eq,Bool.not_eq_true',Bool.not_eq_false',Int.not_lt,Int.not_le,ne_eq,Bool.and_eq_true,Bool.or_eq_true,Bool.or_eq_false_iff,Bool.and_eq_false_iff] at hp) <;> (first | omega | (simp only [go_sem,hg,a46,a46r0,a46r1,a46r2,a46r3,a46r4,a46r5,a46r6,a46r7,a46r8,a46r9,a46r10,hw]; clear hg))))
        all_goals (try simp only [decide_eq_true_eq, decide_eq_false_iff_not, beq_iff_eq, beq_eq_false_iff_ne, bne_iff_ne, bne_eq_false_iff_eq, Bool.not_eq_true', Bool.not_eq_false', Int.not_lt, Int.not_le, ne_eq, Bool.and_eq_true, Bool.or_eq_true, Bool.or_eq_false_iff, Bool.and_eq_false_iff] at *)
        all_goals first
          | (exfalso; omega)
          | (refine Cl.here ⟨⟨i + 1,by omega,hs,rfl,rfl⟩,?_⟩; simp only [go_sem]; omega)
      · have n3 := bad (by simpa using n1)
        rw [n3]
        unfold nbyte at n1
        have n2 : ((byt s i : Int) < 97 ∨ (byt s i : Int) > 122) ∧ ((byt s i : Int) < 48 ∨ (byt s i : Int) > 57) ∧ (byt s i : Int) ≠ 95 := by
          simp only [Bool.or_eq_true, Bool.and_eq_true, decide_eq_true_eq] at n1
          omega
        repeat' (first | (refine grdC_intro ?_ ?_ <;> intro hg <;> (have hp := hg; try simp only [decide_eq_true_eq,decide_eq_false_iff_not,beq_iff_eq,beq_eq_false_iff_ne,bne_iff_ne,bne_eq_false_iff_eq,Bool.not_eq_true',Bool.not_eq_false',Int.not_lt,Int.not_le,ne_eq,Bool.and_eq_true,Bool.or_eq_true,Bool.or_eq_false_iff,Bool.and_eq_false_iff] at hp) <;> (first | omega | (simp only [go_sem,hg,a46,a46r0,a46r1,a46r2,a46r3,a46r4,a46r5,a46r6,a46r7,a46r8,a46r9,a46r10,hw]; clear hg))) | (refine grdD_intro ?_ ?_ <;> intro hg <;> (have hp := hg; try simp only [decide_eq_true_eq,decide_eq_false_iff_not,beq_iff_eq,beq_eq_false_iff_ne,bne_iff_ne,bne_eq_false_iff_eq,Bool.not_eq_true',Bool.not_eq_false',Int.not_lt,Int.not_le,ne_eq,Bool.and_eq_true,Bool.or_eq_true,Bool.or_eq_false_iff,Bool.and_eq_false_iff] at hp) <;> (first | omega | (simp only [go_sem,hg,a46,a46r0,a46r1,a46r2,a46r3,a46r4,a46r5,a46r6,a46r7,a46r8,a46r9,a46r10,hw]; clear hg))) | (refine condC_intro ?_ ?_ <;> intro hg <;> (have hp := hg; try simp only [decide_eq_true_eq,decide_eq_false_iff_not,beq_iff_eq,beq_eq_false_iff_ne,bne_iff_ne,bne_eq_false_iff_eq,Bool.not_eq_true',Bool.not_eq_false',Int.not_lt,Int.not_le,ne_eq,Bool.and_eq_true,Bool.or_eq_true,Bool.or_eq_false_iff,Bool.and_eq_false_iff] at hp) <;> (first | omega | (simp only [go_sem,hg,a46,a46r0,a46r1,a46r2,a46r3,a46r4,a46r5,a46r6,a46r7,a46r8,a46r9,a46r10,hw]; clear hg))) | (refine condW_intro ?_ ?_ <;> intro hg <;> (have hp := hg; try simp only [decide_eq_true_eq,decide_eq_false_iff_not,beq_iff_eq,beq_eq_false_iff_ne,bne_iff_ne,bne_eq_false_iff_eq,Bool.not_eq_true',Bool.not_eq_false',Int.not_lt,Int.not_le,ne_eq,Bool.and_eq_true,Bool.or_eq_true,Bool.or_eq_false_iff,Bool.and_eq_false_iff] at hp) <;> (first | omega | (simp only [go_sem,hg,a46,a46r0,a46r1,a46r2,a46r3,a46r4,a46r5,a46r6,a46r7,a46r8,a46r9,a46r10,hw]; clear hg))))
        all_goals (try simp only [decide_eq_true_eq, decide_eq_false_iff_not, beq_iff_eq, beq_eq_false_iff_ne, bne_iff_ne, bne_eq_false_iff_eq, Bool.not_eq_true', Bool.not_eq_false', Int.not_lt, Int.not_le, ne_eq, Bool.and_eq_true, Bool.or_eq_true, Bool.or_eq_false_iff, Bool.and_eq_false_iff] at *)
        all_goals first
          | (exfalso; omega)
          | exact Cl.fin rfl ⟨rfl, rfl⟩
    · obtain rfl : i = s.size := by omega
      exact Cl.fin rfl ⟨by rw [hall], rfl⟩

/-- is a window valid? -/
def sEq (a b : ByteArray) : Bool := a.toList == b.toList
def noG (w : Win) : Bool := sEq w.group ⟨#[]⟩
def winP (w : Win) : Bool := nameP w.name && (noG w || nameP w.group) && decide (0 ≤ w.rank ∧ w.rank ≤ 1000 ∧ 0 ≤ w.fr ∧ w.fr < 1440 ∧ 0 ≤ w.to ∧ w.to ≤ 1440 ∧ 0 ≤ w.wd ∧ w.wd ≤ 127 ∧ 0 ≤ w.dy ∧ w.dy ≤ 2)
set_option maxHeartbeats 2000000 in
theorem validWindow_ok (w : Win) : AFn Tryz.prog 28 [.agg (Cel.c w)] [] (fun v rs => v = .bool (winP w) ∧ rs = []) := by
  refine afn Tryz.func28 a28_ok (by simp [a28]) ?_
  unfold winP
  simp only [go_sem,a28,a28r0,a28r1,cel_win]
  refine callC_det (isName_ok w.name) rfl rfl ?_
  by_cases h1 : nameP w.name = true
  rotate_left
  · have h1' : nameP w.name = false := by simpa using h1
    rw [h1']
    simp only [go_sem,a28,a28r0,a28r1]
    exact Cl.fin rfl ⟨by simp, rfl⟩
  rw [h1]
  simp only [go_sem,a28,a28r0,a28r1]
  have hE : (w.group.toList == ({ data := #[] } : ByteArray).toList) = noG w := rfl
  rw [hE]
  by_cases hN : (noG w || nameP w.group) = true
  rotate_left
  · have h2 : noG w = false := by
      cases h : noG w
      · rfl
      · rw [h] at hN; simp at hN
    have h3 : nameP w.group = false := by
      cases h : nameP w.group
      · rfl
      · rw [h] at hN; simp at hN
    rw [h2, h3]
    simp only [go_sem,a28,a28r0,a28r1]
    refine callC_det (isName_ok w.group) rfl rfl ?_
    rw [h3]
    simp only [go_sem,a28,a28r0,a28r1]
    exact Cl.fin rfl ⟨rfl, rfl⟩
  rw [hN, Bool.true_and]
  by_cases hok : 0 ≤ w.rank ∧ w.rank ≤ 1000 ∧ 0 ≤ w.fr ∧ w.fr < 1440 ∧ 0 ≤ w.to ∧ w.to ≤ 1440 ∧ 0 ≤ w.wd ∧ w.wd ≤ 127 ∧ 0 ≤ w.dy ∧ w.dy ≤ 2
  · rw [decide_eq_true hok]
    obtain ⟨k1, k2, k3, k4, k5, k6, k7, k8, k9, k10⟩ := hok
    have j1 : w.rank ≥ 0 := k1
    have j3 : w.fr ≥ 0 := k3
    have j5 : w.to ≥ 0 := k5
    have j7 : w.wd ≥ 0 := k7
    have j9 : w.dy ≥ 0 := k9
    cases h2 : noG w
    · rw [h2, Bool.false_or] at hN
      simp only [go_sem,a28,a28r0,a28r1]
      refine callC_det (isName_ok w.group) rfl rfl ?_
      rw [hN]
      simp only [go_sem,a28,a28r0,a28r1,j1,k2,j3,k4,j5,k6,j7,k8,j9,k10]
      exact Cl.fin rfl ⟨rfl, rfl⟩
    · simp only [go_sem,a28,a28r0,a28r1,j1,k2,j3,k4,j5,k6,j7,k8,j9,k10]
      exact Cl.fin rfl ⟨rfl, rfl⟩
  · rw [decide_eq_false hok]
    cases h2 : noG w
    · rw [h2, Bool.false_or] at hN
      simp only [go_sem,a28,a28r0,a28r1]
      refine callC_det (isName_ok w.group) rfl rfl ?_
      rw [hN]
      simp only [go_sem,a28,a28r0,a28r1]
      repeat' (first | (refine grdC_intro ?_ ?_ <;> intro hg <;> (have hp := hg; try simp only [decide_eq_true_eq,decide_eq_false_iff_not,beq_iff_eq,beq_eq_false_iff_ne,bne_iff_ne,bne_eq_false_iff_eq,Bool.not_eq_true',Bool.not_eq_false',Int.not_lt,Int.not_le,ne_eq,Bool.and_eq_true,Bool.or_eq_true,Bool.or_eq_false_iff,Bool.and_eq_false_iff] at hp) <;> (first | omega | (simp only [go_sem,hg,a28,a28r0,a28r1]; clear hg))) | (refine grdD_intro ?_ ?_ <;> intro hg <;> (have hp := hg; try simp only [decide_eq_true_eq,decide_eq_false_iff_not,beq_iff_eq,beq_eq_false_iff_ne,bne_iff_ne,bne_eq_false_iff_eq,Bool.not_eq_true',Bool.not_eq_false',Int.not_lt,Int.not_le,ne_eq,Bool.and_eq_true,Bool.or_eq_true,Bool.or_eq_false_iff,Bool.and_eq_false_iff] at hp) <;> (first | omega | (simp only [go_sem,hg,a28,a28r0,a28r1]; clear hg))) | (refine condC_intro ?_ ?_ <;> intro hg <;> (have hp := hg; try simp only [decide_eq_true_eq,decide_eq_false_iff_not,beq_iff_eq,beq_eq_false_iff_ne,bne_iff_ne,bne_eq_false_iff_eq,Bool.not_eq_true',Bool.not_eq_false',Int.not_lt,Int.not_le,ne_eq,Bool.and_eq_true,Bool.or_eq_true,Bool.or_eq_false_iff,Bool.and_eq_false_iff] at hp) <;> (first | omega | (simp only [go_sem,hg,a28,a28r0,a28r1]; clear hg))) | (refine condW_intro ?_ ?_ <;> intro hg <;> (have hp := hg; try simp only [decide_eq_true_eq,decide_eq_false_iff_not,beq_iff_eq,beq_eq_false_iff_ne,bne_iff_ne,bne_eq_false_iff_eq,Bool.not_eq_true',Bool.not_eq_false',Int.not_lt,Int.not_le,ne_eq,Bool.and_eq_true,Bool.or_eq_true,Bool.or_eq_false_iff,Bool.and_eq_false_iff] at hp) <;> (first | omega | (simp only [go_sem,hg,a28,a28r0,a28r1]; clear hg))))
      all_goals (try simp only [decide_eq_true_eq, decide_eq_false_iff_not, beq_iff_eq, beq_eq_false_iff_ne, bne_iff_ne, bne_eq_false_iff_eq, Bool.not_eq_true', Bool.not_eq_false', Int.not_lt, Int.not_le, ne_eq, Bool.and_eq_true, Bool.or_eq_true, Bool.or_eq_false_iff, Bool.and_eq_false_iff] at *)
      all_goals first
        | (exfalso; omega)
        | exact Cl.fin rfl ⟨rfl, rfl⟩
        | exact Cl.fin rfl ⟨congrArg AVal.bool (decide_eq_false (by omega)), rfl⟩
    · simp only [go_sem,a28,a28r0,a28r1]
      repeat' (first | (refine grdC_intro ?_ ?_ <;> intro hg <;> (have hp := hg; try simp only [decide_eq_true_eq,decide_eq_false_iff_not,beq_iff_eq,beq_eq_false_iff_ne,bne_iff_ne,bne_eq_false_iff_eq,Bool.not_eq_true',Bool.not_eq_false',Int.not_lt,Int.not_le,ne_eq,Bool.and_eq_true,Bool.or_eq_true,Bool.or_eq_false_iff,Bool.and_eq_false_iff] at hp) <;> (first | omega | (simp only [go_sem,hg,a28,a28r0,a28r1]; clear hg))) | (refine grdD_intro ?_ ?_ <;> intro hg <;> (have hp := hg; try simp only [decide_eq_true_eq,decide_eq_false_iff_not,beq_iff_eq,beq_eq_false_iff_ne,bne_iff_ne,bne_eq_false_iff_eq,Bool.not_eq_true',Bool.not_eq_false',Int.not_lt,Int.not_le,ne_eq,Bool.and_eq_true,Bool.or_eq_true,Bool.or_eq_false_iff,Bool.and_eq_false_iff] at hp) <;> (first | omega | (simp only [go_sem,hg,a28,a28r0,a28r1]; clear hg))) | (refine condC_intro ?_ ?_ <;> intro hg <;> (have hp := hg; try simp only [decide_eq_true_eq,decide_eq_false_iff_not,beq_iff_eq,beq_eq_false_iff_ne,bne_iff_ne,bne_eq_false_iff_eq,Bool.not_eq_true',Bool.not_eq_false',Int.not_lt,Int.not_le,ne_eq,Bool.and_eq_true,Bool.or_eq_true,Bool.or_eq_false_iff,Bool.and_eq_false_iff] at hp) <;> (first | omega | (simp only [go_sem,hg,a28,a28r0,a28r1]; clear hg))) | (refine condW_intro ?_ ?_ <;> intro hg <;> (have hp := hg; try simp only [decide_eq_true_eq,decide_eq_false_iff_not,beq_iff_eq,beq_eq_false_iff_ne,bne_iff_ne,bne_eq_false_iff_eq,Bool.not_eq_true',Bool.not_eq_false',Int.not_lt,Int.not_le,ne_eq,Bool.and_eq_true,Bool.or_eq_true,Bool.or_eq_false_iff,Bool.and_eq_false_iff] at hp) <;> (first | omega | (simp only [go_sem,hg,a28,a28r0,a28r1]; clear hg))))
      all_goals (try simp only [decide_eq_true_eq, decide_eq_false_iff_not, beq_iff_eq, beq_eq_false_iff_ne, bne_iff_ne, bne_eq_false_iff_eq, Bool.not_eq_true', Bool.not_eq_false', Int.not_lt, Int.not_le, ne_eq, Bool.and_eq_true, Bool.or_eq_true, Bool.or_eq_false_iff, Bool.and_eq_false_iff] at *)
      all_goals first
        | (exfalso; omega)
        | exact Cl.fin rfl ⟨rfl, rfl⟩
        | exact Cl.fin rfl ⟨congrArg AVal.bool (decide_eq_false (by omega)), rfl⟩

/-- a piece -/
structure Pc where
  day : Int
  fr : Int
  to : Int
  band : ByteArray
def Pc.cells (p : Pc) : List AVal := [.int .i64 p.day, .int .i64 p.fr, .int .i64 p.to, .str p.band]
instance : Cel Pc := ⟨Pc.cells, 4, fun _ => rfl, fun _ => rfl, fun _ => rfl⟩
instance : Flt Pc := ⟨fun _ => rfl⟩
theorem cel_pc (p : Pc) : Cel.c p = [.int .i64 p.day, .int .i64 p.fr, .int .i64 p.to, .str p.band] := rfl
theorem cel_pc_sz : Cel.sz Pc = 4 := rfl
attribute [go_sem] cel_pc_sz
def pcOk (p : Pc) : Prop := 0 ≤ p.day ∧ p.day ≤ 84005 ∧ 0 ≤ p.fr ∧ p.fr < p.to ∧ p.to ≤ 120968640
instance (p : Pc) : Decidable (pcOk p) := inferInstanceAs (Decidable (_ ∧ _))
def pcSum (l : List Pc) : Int := (l.map fun p => p.to - p.fr).sum
def pcE (l : List Pc) : Int := if 4096 < l.length then 3 else if ∀ p ∈ l, pcOk p then (if 100000 < pcSum l then 3 else 0) else 1
theorem pcSum_take {l : List Pc} {i : Nat} (h : i < l.length) : pcSum (l.take (i + 1)) = pcSum (l.take i) + (l[i].to - l[i].fr) := by
  unfold pcSum
  rw [List.take_succ_eq_append_getElem h, List.map_append, List.sum_append]; simp
theorem pcSum_bd {l : List Pc} : ∀ {i : Nat}, i ≤ l.length → (∀ j (h : j < l.length), j < i → pcOk l[j]) → 0 ≤ pcSum (l.take i) ∧ pcSum (l.take i) ≤ 120968640 * i
  | 0, _, _ => by simp [pcSum]
  | i + 1, hi, h => by
    have ih := pcSum_bd (l := l) (i := i) (by omega) fun j hj hji => h j hj (by omega)
    have := h i (by omega) (by omega)
    unfold pcOk at this
    rw [pcSum_take (by omega)]
    omega
theorem checkPieces_ok (l : List Pc) (hl : l.length ≤ 1000000) : AFn Tryz.prog 20 [.pure 4 (els l)] [] (fun v rs => v = .int .i64 (pcE l) ∧ rs = []) := by
  refine afn Tryz.func20 a20_ok (by simp [a20]) ?_
  unfold pcE
  simp only [go_sem,a20,a20r0,a20r1,a20r2,a20r3,a20r4,a20r5,a20r6,a20r7,a20r8,a20r9,a20r10,a20r11,a20r12,a20r13,a20r14,a20r15]
  by_cases h1 : (l.length : Int) > 4096
  · simp only [go_sem,h1]
    exact Cl.fin rfl ⟨by rw [if_pos (by omega)], rfl⟩
  simp only [go_sem,h1]
  rw [if_neg (by omega)]
  refine avc_loop (fun env rows => ∃ (i : Nat), i ≤ l.length ∧ (∀ j (h : j < l.length), j < i → pcOk l[j]) ∧ env = [(3, .int .i64 (pcSum (l.take i))), (9, .pure 4 (els l)), (10, .int .i64 l.length), (11, .int .i64 i)] ∧ rows = [])
    (fun env _ => match slot env 11 with | .int _ j => (l.length - j).toNat | _ => 0) ?_ ?_
  · exact Cl.here ⟨0, by omega, fun j _ h => by omega, by simp [pcSum], rfl⟩
  · rintro env rows ⟨i, hi, hall, rfl, rfl⟩
    have hw : IntKind.i64.wrap ((i : Int) + 1) = ((i + 1 : Nat) : Int) := by rw [wrap_i64 (by omega) (by omega)]; omega
    have hsb := pcSum_bd hi hall
    simp only [go_sem,a20,a20r0,a20r1,a20r2,a20r3,a20r4,a20r5,a20r6,a20r7,a20r8,a20r9,a20r10,a20r11,a20r12,a20r13,a20r14,a20r15]
    refine condC_intro ?_ ?_ <;> intro hg2 <;> simp only [decide_eq_true_eq,decide_eq_false_iff_not,beq_iff_eq,beq_eq_false_iff_ne,bne_iff_ne,bne_eq_false_iff_eq,Bool.not_eq_true',Bool.not_eq_false',Int.not_lt,Int.not_le,ne_eq,Bool.and_eq_true,Bool.or_eq_true,Bool.or_eq_false_iff,Bool.and_eq_false_iff] at hg2 <;> simp only [go_sem,a20,a20r0,a20r1,a20r2,a20r3,a20r4,a20r5,a20r6,a20r7,a20r8,a20r9,a20r10,a20r11,a20r12,a20r13,a20r14,a20r15]
    · have hlt : i < l.length := by omega
      refine ⟨by omega, by omega, ?_⟩
      try simp only [Int.toNat_natCast]
      rw [els_getD hlt]
      have hst := pcSum_take hlt
      have hbad : ¬ pcOk l[i] → ¬ ∀ p ∈ l, pcOk p := fun h1 h2 => h1 (h2 _ (List.getElem_mem hlt))
      have hnx : pcOk l[i] → ∀ j (h : j < l.length), j < i + 1 → pcOk l[j] := fun h1 j hj hji => by
        by_cases e : j = i
        · subst e; exact h1
        · exact hall j hj (by omega)
      generalize l[i] = p at hst hbad hnx ⊢
      simp only [go_sem,a20,a20r0,a20r1,a20r2,a20r3,a20r4,a20r5,a20r6,a20r7,a20r8,a20r9,a20r10,a20r11,a20r12,a20r13,a20r14,a20r15,cel_pc]
      by_cases hp : pcOk p
      · have hp' := hp
        unfold pcOk at hp'
        obtain ⟨k1, k2, k3, k4, k5⟩ := hp'
        have j1 : ¬ p.day < 0 := by omega
        have j2 : ¬ p.day > 84005 := by omega
        have j3 : ¬ p.fr < 0 := by omega
        have j4 : ¬ p.to ≤ p.fr := by omega
        have j5 : ¬ p.to > 120968640 := by omega
        have w1 : IntKind.i64.wrap (p.to - p.fr) = p.to - p.fr := wrap_i64 (by omega) (by omega)
        have w2 : IntKind.i64.wrap (pcSum (l.take i) + (p.to - p.fr)) = pcSum (l.take (i + 1)) := by rw [wrap_i64 (by omega) (by omega), hst]
        simp only [go_sem,a20,a20r0,a20r1,a20r2,a20r3,a20r4,a20r5,a20r6,a20r7,a20r8,a20r9,a20r10,a20r11,a20r12,a20r13,a20r14,a20r15,j1,j2,j3,j4,j5,w1,w2,hw]
        (refine Cl.tr [] [] rfl rfl (by simp only [go_sem] <;> rfl) ?_; simp only [go_sem])
        refine Cl.here ⟨⟨i + 1, by omega, hnx hp, rfl, rfl⟩, ?_⟩
        simp only [go_sem]
        omega
      · rw [if_neg (hbad hp)]
        unfold pcOk at hp
        repeat' (first | (refine grdC_intro ?_ ?_ <;> intro hg <;> (have hp := hg; try simp only [decide_eq_true_eq,decide_eq_false_iff_not,beq_iff_eq,beq_eq_false_iff_ne,bne_iff_ne,bne_eq_false_iff_eq,Bool.not_eq_true',Bool.not_eq_false',Int.not_lt,Int.not_le,ne_eq,Bool.and_eq_true,Bool.or_eq_true,Bool.or_eq_false_iff,Bool.and_eq_false_iff] at hp) <;> (first | omega | (simp only [go_sem,hg,a20,a20r0,a20r1,a20r2,a20r3,a20r4,a20r5,a20r6,a20r7,a20r8,a20r9,a20r10,a20r11,a20r12,a20r13,a20r14,a20r15]; clear hg))) | (refine grdD_intro ?_ ?_ <;> intro hg <;> (have hp := hg; try simp only [decide_eq_true_eq,decide_eq_false_iff_not,beq_iff_eq,beq_eq_false_iff_ne,bne_iff_ne,bne_eq_false_iff_eq,Bool.not_eq_true',Bool.not_eq_false',Int.not_lt,Int.not_le,ne_eq,Bool.and_eq_true,Bool.or_eq_true,Bool.or_eq_false_iff,Bool.and_eq_false_iff] at hp) <;> (first | omega | (simp only [go_sem,hg,a20,a20r0,a20r1,a20r2,a20r3,a20r4,a20r5,a20r6,a20r7,a20r8,a20r9,a20r10,a20r11,a20r12,a20r13,a20r14,a20r15]; clear hg))) | (refine condC_intro ?_ ?_ <;> intro hg <;> (have hp := hg; try simp only [decide_eq_true_eq,decide_eq_false_iff_not,beq_iff_eq,beq_eq_false_iff_ne,bne_iff_ne,bne_eq_false_iff_eq,Bool.not_eq_true',Bool.not_eq_false',Int.not_lt,Int.not_le,ne_eq,Bool.and_eq_true,Bool.or_eq_true,Bool.or_eq_false_iff,Bool.and_eq_false_iff] at hp) <;> (first | omega | (simp only [go_sem,hg,a20,a20r0,a20r1,a20r2,a20r3,a20r4,a20r5,a20r6,a20r7,a20r8,a20r9,a20r10,a20r11,a20r12,a20r13,a20r14,a20r15]; clear hg))) | (refine condW_intro ?_ ?_ <;> intro hg <;> (have hp := hg; try simp only [decide_eq_true_eq,decide_eq_false_iff_not,beq_iff_eq,beq_eq_false_iff_ne,bne_iff_ne,bne_eq_false_iff_eq,Bool.not_eq_true',Bool.not_eq_false',Int.not_lt,Int.not_le,ne_eq,Bool.and_eq_true,Bool.or_eq_true,Bool.or_eq_false_iff,Bool.and_eq_false_iff] at hp) <;> (first | omega | (simp only [go_sem,hg,a20,a20r0,a20r1,a20r2,a20r3,a20r4,a20r5,a20r6,a20r7,a20r8,a20r9,a20r10,a20r11,a20r12,a20r13,a20r14,a20r15]; clear hg))))
        all_goals (try simp only [decide_eq_true_eq, decide_eq_false_iff_not, beq_iff_eq, beq_eq_false_iff_ne, bne_iff_ne, bne_eq_false_iff_eq, Bool.not_eq_true', Bool.not_eq_false', Int.not_lt, Int.not_le, ne_eq, Bool.and_eq_true, Bool.or_eq_true, Bool.or_eq_false_iff, Bool.and_eq_false_iff] at *)
        all_goals first
          | (exfalso; omega)
          | exact Cl.fin rfl ⟨rfl, rfl⟩
    · obtain rfl : i = l.length := by omega
      rw [List.take_length] at hsb ⊢
      rw [if_pos (fun p hp => by obtain ⟨j, hj, rfl⟩ := List.getElem_of_mem hp; exact hall j hj hj)]
      by_cases h3 : pcSum l > 100000
      · simp only [go_sem,h3]
        exact Cl.fin rfl ⟨rfl, rfl⟩
      · simp only [go_sem,h3]
        exact Cl.fin rfl ⟨rfl, rfl⟩

end Go.Proofs.YtefemdpicjgkeaaGreatDoor
