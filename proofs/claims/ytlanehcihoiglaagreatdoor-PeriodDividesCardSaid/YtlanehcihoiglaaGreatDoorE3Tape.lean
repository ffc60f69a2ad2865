/- CalendarDays: the walk. -/
import Derived.Test.YtlanehcihoiglaaGreatDoorE3Col
import Derived.Test.YtlanehcihoiglaaGreatDoorB2zForms
set_option linter.unusedSimpArgs false
set_option linter.unusedVariables false
set_option linter.unusedSectionVars false
namespace Go.Proofs.YtlanehcihoiglaaGreatDoor
open Go Go.Abs
set_option linter.unusedSimpArgs false

def tp (l : List Int) (a : Int) : Row := tapeRow 44 l a

theorem new_ok (l : List Int) : AFn Tryz.prog 4 [.pure 1 (numsE .i64 l)] [] (fun r rows => r = .ref 0 1 0 0 ∧ rows = [tp l 0]) := by
  refine afn Tryz.func4 a4_ok (by simp [a4]) ?_
  simp only [go_sem,a4,a4r0,a4r1]
  exact Cl.here ⟨rfl, rfl⟩

theorem next_ok (l : List Int) (hl : TapeOk l) (n : Int) (hn : n ≤ 9223372036854775807) : TapeFn Tryz.prog 44 14 [.int .i64 n] l (Pickd n) := by
  intro at_ h0 h1
  refine afn Tryz.func14 a14_ok (by simp [a14]) ?_
  simp only [go_sem,a14,a14r0,a14r1,a14r2,a14r3,a14r4,tapeRow]
  have hlen := hl.len
  repeat' (first | (refine grdC_intro ?_ ?_ <;> intro hg <;> (have hp := hg; try simp only [decide_eq_true_eq,decide_eq_false_iff_not,beq_iff_eq,beq_eq_false_iff_ne,bne_iff_ne,bne_eq_false_iff_eq,Bool.not_eq_true',Bool.not_eq_false',Int.not_lt,Int.not_le,ne_eq,Bool.and_eq_true,Bool.or_eq_true,Bool.or_eq_false_iff,Bool.and_eq_false_iff] at hp) <;> (first | omega | (simp only [go_sem,hg,a14,a14r0,a14r1,a14r2,a14r3,a14r4]; clear hg))) | (refine grdD_intro ?_ ?_ <;> intro hg <;> (have hp := hg; try simp only [decide_eq_true_eq,decide_eq_false_iff_not,beq_iff_eq,beq_eq_false_iff_ne,bne_iff_ne,bne_eq_false_iff_eq,Bool.not_eq_true',Bool.not_eq_false',Int.not_lt,Int.not_le,ne_eq,Bool.and_eq_true,Bool.or_eq_true,Bool.or_eq_false_iff,Bool.and_eq_false_iff] at hp) <;> (first | omega | (simp only [go_sem,hg,a14,a14r0,a14r1,a14r2,a14r3,a14r4]; clear hg))) | (refine condC_intro ?_ ?_ <;> intro hg <;> (have hp := hg; try simp only [decide_eq_true_eq,decide_eq_false_iff_not,beq_iff_eq,beq_eq_false_iff_ne,bne_iff_ne,bne_eq_false_iff_eq,Bool.not_eq_true',Bool.not_eq_false',Int.not_lt,Int.not_le,ne_eq,Bool.and_eq_true,Bool.or_eq_true,Bool.or_eq_false_iff,Bool.and_eq_false_iff] at hp) <;> (first | omega | (simp only [go_sem,hg,a14,a14r0,a14r1,a14r2,a14r3,a14r4]; clear hg))) | (refine condW_intro ?_ ?_ <;> intro hg <;> (have hp := hg; try simp only [decide_eq_true_eq,decide_eq_false_iff_not,beq_iff_eq,beq_eq_false_iff_ne,bne_iff_ne,bne_eq_false_iff_eq,Bool.not_eq_true',Bool.not_eq_false',Int.not_lt,Int.not_le,ne_eq,Bool.and_eq_true,Bool.or_eq_true,Bool.or_eq_false_iff,Bool.and_eq_false_iff] at hp) <;> (first | omega | (simp only [go_sem,hg,a14,a14r0,a14r1,a14r2,a14r3,a14r4]; clear hg))))
  · exact Cl.tape rfl h0 h1 ⟨0, rfl, by omega, by omega⟩
  · exact Cl.tape rfl h0 h1 ⟨0, rfl, by omega, by omega⟩
  · simp (disch := omega) only [wrap_i64, numsE_getD, Int.add_sub_cancel]
    refine ⟨by omega, by omega, by simp, ?_⟩
    simp only [go_sem]
    refine callD_det (mod_ok _ _ (by omega) hn) rfl rfl ?_
    simp only [go_sem]
    have hb := mod_bounds (v := l.getD at_.toNat 0) (n := n) (by omega)
    exact Cl.tape rfl (by omega) (by omega) ⟨_, rfl, by omega, by omega⟩

theorem pick_ok (l : List Int) (hl : TapeOk l) (xs : List Int) (hx : 0 < xs.length) (hx' : xs.length ≤ 1000) : TapeFn1 Tryz.prog 44 3 12 l xs (fun v => ∃ x, x ∈ xs ∧ v = .int .i64 x) := by
  intro at_ h0 h1
  refine afn Tryz.func12 a12_ok (by simp [a12]) ?_
  simp only [go_sem,a12,a12r0,a12r1]
  refine callC_tape (next_ok l hl _ (by omega)) rfl (by simp) h0 h1 ?_
  rintro v a h2 h3 ⟨x, rfl, h4, h5⟩
  simp only [go_sem]
  refine ⟨by omega, by omega, ?_⟩
  rw [numsE_getD (by omega)]
  simp only [go_sem]
  refine Cl.here ⟨a, rfl, h2, h3, rfl, _, ?_, rfl⟩
  rw [List.getD_eq_getElem?_getD, List.getElem?_eq_getElem (by omega)]
  simp

end Go.Proofs.YtlanehcihoiglaaGreatDoor
