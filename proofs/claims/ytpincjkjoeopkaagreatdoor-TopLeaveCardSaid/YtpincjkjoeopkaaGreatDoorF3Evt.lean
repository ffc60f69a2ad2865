/- TopLeave: the results of absences; which of them are leave. -/
import Derived.Test.YtpincjkjoeopkaaGreatDoorF1Wkn
import Derived.Test.YtpincjkjoeopkaaGreatDoorF2Gen
set_option linter.unusedSimpArgs false
set_option linter.unusedVariables false
set_option linter.unusedSectionVars false
namespace Go.Proofs.YtpincjkjoeopkaaGreatDoor
open Go Go.Abs
set_option linter.unusedSimpArgs false
set_option linter.unusedVariables false

theorem nmIs (s : ByteArray) (h : s = nmS ∨ s = nmL ∨ s = nmO) : AFn Tryz.prog 108 [.str s] [] (fun v rs => v = .bool true ∧ rs = []) := by
  rcases h with rfl | rfl | rfl
  · exact run_afn (T := tab) (L := []) 60 [(.bool true, [])] (by kernel_rfl) (by intro o h; rw [List.mem_singleton] at h; subst h; exact ⟨rfl, rfl⟩)
  · exact run_afn (T := tab) (L := []) 60 [(.bool true, [])] (by kernel_rfl) (by intro o h; rw [List.mem_singleton] at h; subst h; exact ⟨rfl, rfl⟩)
  · exact run_afn (T := tab) (L := []) 60 [(.bool true, [])] (by kernel_rfl) (by intro o h; rw [List.mem_singleton] at h; subst h; exact ⟨rfl, rfl⟩)
structure Bd where
  n : ByteArray
  a : Int
instance : Cel Bd := ⟨fun a => [.str a.n, .int .i64 a.a], 2, fun _ => rfl, fun _ => rfl, fun _ => rfl⟩
instance : Flt Bd := ⟨fun _ => rfl⟩
theorem abG_fine {a : Ab} (h : abG a) : abFine a ∧ a.name.size ≤ maxLen ∧ (Lit.int .i64 a.day).wf = true := by
  obtain ⟨h1, h2, h3, h4, h5⟩ := h
  refine ⟨by unfold abFine; omega, ?_, ?_⟩
  · rcases h4 with h | h | h <;> rw [h] <;> decide
  · have e1 : IntKind.i64.min = -9223372036854775808 := rfl
    have e2 : IntKind.i64.max = 9223372036854775807 := rfl
    simp only [Lit.wf, e1, e2]
    simp
    omega
theorem evT (pl : List Sf) (hpl : plE z00 pl = 0) (l : List Ab) (hl : l.length ≤ 1000) (hf : ∀ a ∈ l, abG a) (fr to : Int) (h0 : evE l fr to = 0) :
    AFn Tryz.prog 11 [.agg [.int .i64 0, .nils, .int .i64 900, .int .i64 0, .int .i64 0, .int .i64 0, .int .i64 0, .int .i64 0, .nils, .str ⟨#[110, 111, 114, 109, 97, 108]⟩, .own 0 1 0 1, .nils, .nils, .nils], .pure 3 (els pl), .nils, .pure 4 (els l), .int .i64 1, .int .i64 fr, .int .i64 to] [.live 128 2 [[.str ⟨#[111, 116, 49]⟩, .int .i64 480]]]
      (fun v rs => v = .tup [.pure 3 (els (dayRs pl 1 fr to l (mrkL l))), .int .i64 0] ∧ rs = [.dead]) := by
  have hll := plE_len hpl
  have h1 := pEval_ok2 (.int .i64 0) .nils (.int .i64 900) (.int .i64 0) (.int .i64 0) (.int .i64 0) (.int .i64 0) (.int .i64 0) .nils (.str ⟨#[110, 111, 114, 109, 97, 108]⟩) (.pure 2 [[.str ⟨#[111, 116, 49]⟩, .int .i64 480]]) .nils .nils .nils rfl rfl pl (by omega) 1 (worksN_ok pl hpl) divR_ok mrkR_ok l (by omega) (fun a ha => vAbs_ok a (abG_fine (hf a ha)).1 (nmIs _ (hf a ha).2.2.2.1)) (fun a ha => by have := (abG_fine (hf a ha)).1; unfold abFine at this; exact ⟨this.2.2.2.2.1, this.2.2.2.2.2⟩) (fun a ha => ⟨(abG_fine (hf a ha)).2.2, (abG_fine (hf a ha)).2.1⟩) fr to
  refine (AFn.give1 (α := Bd) (l := [⟨⟨#[111, 116, 49]⟩, 480⟩]) (T := 128) (sz := 2) (args := [.agg [.int .i64 0, .nils, .int .i64 900, .int .i64 0, .int .i64 0, .int .i64 0, .int .i64 0, .int .i64 0, .nils, .str ⟨#[110, 111, 114, 109, 97, 108]⟩, .own 0 1 0 1, .nils, .nils, .nils], .pure 3 (els pl), .nils, .pure 4 (els l), .int .i64 1, .int .i64 fr, .int .i64 to]) ?_ ?_ h1 ?_).mono ?_
  · simp only [bindL, bindV_clean (.pure 4 (els l)) (by simp only [clean, els_clean]), bindV_clean (.pure 3 (els pl)) (by simp only [clean, els_clean])]
    try rfl
  · simp only [cleanL, clean, els_clean, Bool.and_self]
  · rintro v rs ⟨h | h, rfl⟩
    · exact absurd h0 h.1
    · rw [h.2]; exact ⟨by simp only [clean, cleanL, els_clean, Bool.and_self], rfl⟩
  · rintro v rs ⟨⟨h | h, _⟩, rfl⟩
    · exact absurd h0 h.1
    · exact ⟨h.2, rfl⟩
theorem sheet_ok : AFn Tryz.prog 36 [] [] (fun v rs => v = .agg [.int .i64 0, .nils, .int .i64 900, .int .i64 0, .int .i64 0, .int .i64 0, .int .i64 0, .int .i64 0, .nils, .str ⟨#[110, 111, 114, 109, 97, 108]⟩, .own 0 1 0 1, .nils, .nils, .nils] ∧ rs = [.live 128 2 [[.str ⟨#[111, 116, 49]⟩, .int .i64 480]]]) :=
  run_afn (T := tab) (L := []) 60 [(.agg [.int .i64 0, .nils, .int .i64 900, .int .i64 0, .int .i64 0, .int .i64 0, .int .i64 0, .int .i64 0, .nils, .str ⟨#[110, 111, 114, 109, 97, 108]⟩, .own 0 1 0 1, .nils, .nils, .nils], [.live 128 2 [[.str ⟨#[111, 116, 49]⟩, .int .i64 480]]])] (by kernel_rfl) (by intro o h; rw [List.mem_singleton] at h; subst h; exact ⟨rfl, rfl⟩)

end Go.Proofs.YtpincjkjoeopkaaGreatDoor
