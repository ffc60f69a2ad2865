/- The reference: Same, of a list with itself. -/
import Derived.Test.YtpincjkjoeopkaaGreatDoorF9REv
set_option linter.unusedSimpArgs false
set_option linter.unusedVariables false
set_option linter.unusedSectionVars false
namespace Go.Proofs.YtpincjkjoeopkaaGreatDoor
open Go Go.Abs
set_option linter.unusedSimpArgs false
set_option linter.unusedVariables false

theorem sameT_ok (l : List Ti) (hl : l.length ≤ 1000000) : AFn Tryz.prog 56 [.pure 2 (els l), .pure 2 (els l)] [] (fun v rs => v = .bool true ∧ rs = []) := by
  refine afn Tryz.func56 a56_ok (by simp [a56, s56]) ?_
  simp only [go_sem,a56,s56,els_length,bne_self_eq_false]
  refine avc_loop (fun env rows => ∃ i : Nat, i ≤ l.length ∧ env = [(0, .pure 2 (els l)), (1, .pure 2 (els l)), (5, .int .i64 i)] ∧ rows = [])
    (fun env _ => match slot env 5 with | .int _ j => (l.length - j).toNat | _ => 0) ?_ ?_
  · exact Cl.here ⟨0, by omega, rfl, rfl⟩
  rintro env rows ⟨i, hi, rfl, rfl⟩
  have hw : IntKind.i64.wrap ((i : Int) + 1) = ((i + 1 : Nat) : Int) := by rw [wrap_i64 (by omega) (by omega)]; omega
  by_cases hlt : i < l.length
  · have h1 : decide ((i : Int) < l.length) = true := decide_eq_true (by omega)
    have z0 : (0 : Int) ≤ i := by omega
    have z1 : (i : Int) < l.length := by omega
    have gz : (els l).getD i [] = Cel.c l[i] := els_getD hlt
    simp only [go_sem,a56,s56,h1,z0,z1,gz,els_length,cel_ti,bne_self_eq_false,beq_self_eq_true,hw]
    refine Cl.here ⟨⟨i + 1, by omega, rfl, rfl⟩, ?_⟩
    simp only [go_sem]
    omega
  have h1 : decide ((i : Int) < l.length) = false := decide_eq_false (by omega)
  simp only [go_sem,a56,s56,h1,els_length]
  exact Cl.fin rfl ⟨rfl, rfl⟩
theorem sameA_ok (l : List An) (hl : l.length ≤ 1000000) : AFn Tryz.prog 22 [.pure 2 (els l), .pure 2 (els l)] [] (fun v rs => v = .bool true ∧ rs = []) := by
  refine afn Tryz.func22 a22_ok (by simp [a22, s22]) ?_
  simp only [go_sem,a22,s22,els_length,bne_self_eq_false]
  refine avc_loop (fun env rows => ∃ i : Nat, i ≤ l.length ∧ env = [(0, .pure 2 (els l)), (1, .pure 2 (els l)), (5, .int .i64 i)] ∧ rows = [])
    (fun env _ => match slot env 5 with | .int _ j => (l.length - j).toNat | _ => 0) ?_ ?_
  · exact Cl.here ⟨0, by omega, rfl, rfl⟩
  rintro env rows ⟨i, hi, rfl, rfl⟩
  have hw : IntKind.i64.wrap ((i : Int) + 1) = ((i + 1 : Nat) : Int) := by rw [wrap_i64 (by omega) (by omega)]; omega
  by_cases hlt : i < l.length
  · have h1 : decide ((i : Int) < l.length) = true := decide_eq_true (by omega)
    have z0 : (0 : Int) ≤ i := by omega
    have z1 : (i : Int) < l.length := by omega
    have gz : (els l).getD i [] = [.int .i64 l[i].t, .int .i64 l[i].k] := els_getD hlt
    simp only [go_sem,a22,s22,h1,z0,z1,gz,els_length,bne_self_eq_false,beq_self_eq_true,hw]
    refine Cl.here ⟨⟨i + 1, by omega, rfl, rfl⟩, ?_⟩
    simp only [go_sem]
    omega
  have h1 : decide ((i : Int) < l.length) = false := decide_eq_false (by omega)
  simp only [go_sem,a22,s22,h1,els_length]
  exact Cl.fin rfl ⟨rfl, rfl⟩
theorem same_ok (l : List DR) (hl : l.length ≤ 1000000) (hb : ∀ x ∈ l, x.ts.length ≤ 1000000 ∧ x.an.length ≤ 1000000) : AFn Tryz.prog 14 [.pure 3 (els l), .pure 3 (els l)] [] (fun v rs => v = .bool true ∧ rs = []) := by
  refine afn Tryz.func14 a14_ok (by simp [a14, s14]) ?_
  simp only [go_sem,a14,s14,els_length,bne_self_eq_false]
  refine avc_loop (fun env rows => ∃ i : Nat, i ≤ l.length ∧ env = [(0, .pure 3 (els l)), (1, .pure 3 (els l)), (5, .int .i64 i)] ∧ rows = [])
    (fun env _ => match slot env 5 with | .int _ j => (l.length - j).toNat | _ => 0) ?_ ?_
  · exact Cl.here ⟨0, by omega, rfl, rfl⟩
  rintro env rows ⟨i, hi, rfl, rfl⟩
  have hw : IntKind.i64.wrap ((i : Int) + 1) = ((i + 1 : Nat) : Int) := by rw [wrap_i64 (by omega) (by omega)]; omega
  by_cases hlt : i < l.length
  · have h1 : decide ((i : Int) < l.length) = true := decide_eq_true (by omega)
    have z0 : (0 : Int) ≤ i := by omega
    have z1 : (i : Int) < l.length := by omega
    have gz : (els l).getD i [] = Cel.c l[i] := els_getD hlt
    obtain ⟨hb1, hb2⟩ := hb l[i] (List.getElem_mem hlt)
    simp only [go_sem,a14,s14,h1,z0,z1,gz,els_length,cel_dr,bne_self_eq_false]
    refine callD_det (sameT_ok l[i].ts hb1) (by simp only [cleanL, clean, els_clean, Bool.and_true]) rfl ?_
    simp only [go_sem,z0,z1,gz,els_length,cel_dr]
    refine callD_det (sameA_ok l[i].an hb2) (by simp only [cleanL, clean, els_clean, Bool.and_true]) rfl ?_
    simp only [go_sem,hw]
    refine Cl.here ⟨⟨i + 1, by omega, rfl, rfl⟩, ?_⟩
    simp only [go_sem]
    omega
  have h1 : decide ((i : Int) < l.length) = false := decide_eq_false (by omega)
  simp only [go_sem,a14,s14,h1,els_length]
  exact Cl.fin rfl ⟨rfl, rfl⟩

end Go.Proofs.YtpincjkjoeopkaaGreatDoor
