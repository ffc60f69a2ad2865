/- The tape of choices: Mod, New, Next, Pick. -/
import Derived.Test.YtpincjkjoeopkaaGreatDoorF3Gen
import Derived.Test.YtpincjkjoeopkaaGreatDoorAbsMg
set_option linter.unusedSimpArgs false
set_option linter.unusedVariables false
set_option linter.unusedSectionVars false
namespace Go.Proofs.YtpincjkjoeopkaaGreatDoor
open Go Go.Abs
set_option linter.unusedSimpArgs false

def tp (l : List Int) (a : Int) : Row := tapeRow 143 l a

theorem mod_ok (v n : Int) (hn : 0 < n) (hn' : n ≤ 9223372036854775807) : AFn Tryz.prog 10 [.int .i64 v, .int .i64 n] [] (fun r rows => r = .int .i64 (mod v n) ∧ rows = []) := by
  refine afn Tryz.func10 a10_ok (by simp [a10, s10]) ?_
  simp only [go_sem,a10,s10]
  refine ⟨by omega, ?_⟩
  have h1 := Int.tmod_lt_of_pos v hn
  refine condC_intro ?_ ?_ <;> intro hg <;> simp only [go_sem,a10,s10] <;> refine Cl.fin rfl ⟨?_,rfl⟩ <;> simp only [decide_eq_true_eq,decide_eq_false_iff_not] at hg
  · have h2 : -n < v.tmod n := by
      have := Int.lt_tmod_of_pos v hn
      omega
    rw [wrap_i64 (by omega) (by omega), mod, if_pos hg]
  · rw [mod, if_neg hg]

theorem new_ok (l : List Int) : AFn Tryz.prog 16 [.pure 1 (numsE .i64 l)] [] (fun r rows => r = .ref 0 1 0 0 ∧ rows = [tp l 0]) := by
  refine afn Tryz.func16 a16_ok (by simp [a16, s16]) ?_
  simp only [go_sem,a16,s16]
  exact Cl.here ⟨rfl, rfl⟩

theorem next_ok (l : List Int) (hl : TapeOk l) (n : Int) (hn : n ≤ 9223372036854775807) : TapeFn Tryz.prog 143 64 [.int .i64 n] l (Pickd n) := by
  intro at_ h0 h1
  refine afn Tryz.func64 a64_ok (by simp [a64, s64]) ?_
  simp only [go_sem,a64,s64,tapeRow]
  have hlen := hl.len
  repeat' (first | (refine grdC_intro ?_ ?_ <;> intro hg <;> (have hp := hg; try simp only [decide_eq_true_eq,decide_eq_false_iff_not,beq_iff_eq,beq_eq_false_iff_ne,bne_iff_ne,bne_eq_false_iff_eq,Bool.not_eq_true',Bool.not_eq_false',Int.not_lt,Int.not_le,ne_eq,Bool.and_eq_true,Bool.or_eq_true,Bool.or_eq_false_iff,Bool.and_eq_false_iff] at hp) <;> (first | omega | (simp only [go_sem,hg,a64,s64]; clear hg))) | (refine grdD_intro ?_ ?_ <;> intro hg <;> (have hp := hg; try simp only [decide_eq_true_eq,decide_eq_false_iff_not,beq_iff_eq,beq_eq_false_iff_ne,bne_iff_ne,bne_eq_false_iff_eq,Bool.not_eq_true',Bool.not_eq_false',Int.not_lt,Int.not_le,ne_eq,Bool.and_eq_true,Bool.or_eq_true,Bool.or_eq_false_iff,Bool.and_eq_false_iff] at hp) <;> (first | omega | (simp only [go_sem,hg,a64,s64]; clear hg))) | (refine condC_intro ?_ ?_ <;> intro hg <;> (have hp := hg; try simp only [decide_eq_true_eq,decide_eq_false_iff_not,beq_iff_eq,beq_eq_false_iff_ne,bne_iff_ne,bne_eq_false_iff_eq,Bool.not_eq_true',Bool.not_eq_false',Int.not_lt,Int.not_le,ne_eq,Bool.and_eq_true,Bool.or_eq_true,Bool.or_eq_false_iff,Bool.and_eq_false_iff] at hp) <;> (first | omega | (simp only [go_sem,hg,a64,s64]; clear hg))) | (refine condW_intro ?_ ?_ <;> intro hg <;> (have hp := hg; try simp only [decide_eq_true_eq,decide_eq_false_iff_not,beq_iff_eq,beq_eq_false_iff_ne,bne_iff_ne,bne_eq_false_iff_eq,Bool.not_eq_true',Bool.not_eq_false',Int.not_lt,Int.not_le,ne_eq,Bool.and_eq_true,Bool.or_eq_true,Bool.or_eq_false_iff,Bool.and_eq_false_iff] at hp) <;> (first | omega | (simp only [go_sem,hg,a64,s64]; clear hg))))
  · exact Cl.tape rfl h0 h1 ⟨0, rfl, by omega, by omega⟩
  · exact Cl.tape rfl h0 h1 ⟨0, rfl, by omega, by omega⟩
  · simp (disch := omega) only [wrap_i64, numsE_getD, Int.add_sub_cancel]
    refine ⟨by omega, by omega, by simp, ?_⟩
    simp only [go_sem]
    refine callD_det (mod_ok _ _ (by omega) hn) rfl rfl ?_
    simp only [go_sem]
    have hb := mod_bounds (v := l.getD at_.toNat 0) (n := n) (by omega)
    exact Cl.tape rfl (by omega) (by omega) ⟨_, rfl, by omega, by omega⟩

theorem pick_ok (l : List Int) (hl : TapeOk l) (xs : List Int) (hx : 0 < xs.length) (hx' : xs.length ≤ 1000) : TapeFn1 Tryz.prog 143 3 59 l xs (fun v => ∃ x, x ∈ xs ∧ v = .int .i64 x) := by
  intro at_ h0 h1
  refine afn Tryz.func59 a59_ok (by simp [a59, s59]) ?_
  simp only [go_sem,a59,s59]
  refine callC_tape (next_ok l hl _ (by omega)) rfl (by simp) h0 h1 ?_
  rintro v a h2 h3 ⟨x, rfl, h4, h5⟩
  simp only [go_sem]
  refine ⟨by omega, by omega, ?_⟩
  rw [numsE_getD (by omega)]
  simp only [go_sem]
  refine Cl.here ⟨a, rfl, h2, h3, rfl, _, ?_, rfl⟩
  rw [List.getD_eq_getElem?_getD, List.getElem?_eq_getElem (by omega)]
  simp
end Go.Proofs.YtpincjkjoeopkaaGreatDoor
