/- CalendarTexts: the walk. -/
import Derived.Test.YtpmlihjdegekgaaDoorA3TPl
import Derived.Test.YtpmlihjdegekgaaDoorA3Prs2
import Derived.Test.YtpmlihjdegekgaaDoorA3Tape
import Derived.Test.YtpmlihjdegekgaaDoorA3Sane
set_option linter.unusedSimpArgs false
set_option linter.unusedVariables false
set_option linter.unusedSectionVars false
namespace Go.Proofs.YtpmlihjdegekgaaDoor
open Go Go.Abs
set_option linter.unusedSimpArgs false
set_option linter.unusedVariables false

instance : Cel ByteArray := ⟨fun b => [.str b], 1, fun _ => rfl, fun _ => rfl, fun _ => rfl⟩
theorem fmtS_size (d : Int) : (fmtS d).size ≤ 100 := by
  unfold fmtS
  by_cases hd : okD d
  · rw [if_pos hd]
    obtain ⟨m, r, e1, e2, e3, e4, e5, _⟩ := date_ok (d := d) hd.1 (by have := hd.2; omega)
    obtain ⟨_, _, y1, y2⟩ := year_ok (d := d) hd.1 (by have := hd.2; omega)
    have hl := lenP_bd (y := yearP d) (m := m) (by omega) (by omega)
    have s1 := itoaS_size (yearP d) (by omega) (by omega)
    have s2 := twoP_size m (by omega) (by omega)
    have s3 := twoP_size (r + 1) (by omega) (by omega)
    rw [fmtP, e1]
    simp only [ba_size]
    have h1 : (⟨#[45]⟩ : ByteArray).size = 1 := rfl
    omega
  · rw [if_neg hd]; decide
theorem parse_fmtS {s : ByteArray} (h : (parseP s).2 = true) : fmtS (parseP s).1 = s := by
  obtain ⟨a, b⟩ := parse_fmt h
  rw [fmtS, if_pos a, b]
theorem calendarTexts (l : List Int) (hl : TapeOk l) (day : Int) (s : ByteArray) : AFn Tryd.prog 9 [.pure 1 (numsE .i64 l), .int .i64 day, .str s] [] (fun v _ => v = .bool true) := by
  refine afn Tryd.func9 a9_ok (by simp [a9]) ?_
  simp only [go_sem, Nat.reduceAdd, Nat.reduceSub, Nat.reduceMul, Nat.reduceEqDiff, Nat.reduceLT, Nat.reduceLeDiff, Nat.reduceBEq, reduceIte, reduceCtorEq, Int.reduceToNat, Int.reduceLE, Int.reduceLT, Int.reduceBEq, Int.reduceBNe, a9, a9r0, a9r1, a9r2, a9r3, a9r4, a9r5, a9r6, a9r7, a9r8, a9r9, a9r10, a9r11]
  (refine callC_of [] [] (by simp) rfl (bindL_clean _ (by first | rfl | simp only [go_sem, Nat.reduceAdd, Nat.reduceSub, Nat.reduceMul, Nat.reduceEqDiff, Nat.reduceLT, Nat.reduceLeDiff, Nat.reduceBEq, reduceIte, reduceCtorEq, Int.reduceToNat, Int.reduceLE, Int.reduceLT, Int.reduceBEq, Int.reduceBNe])) (new_ok l) ?_; rintro _ _ ⟨rfl, rfl⟩; refine ⟨.inl rfl, ?_⟩; simp only [go_sem, Nat.reduceAdd, Nat.reduceSub, Nat.reduceMul, Nat.reduceEqDiff, Nat.reduceLT, Nat.reduceLeDiff, Nat.reduceBEq, reduceIte, reduceCtorEq, Int.reduceToNat, Int.reduceLE, Int.reduceLT, Int.reduceBEq, Int.reduceBNe])
  refine callC_tape (tday_ok l hl) rfl rfl (by omega) (by omega) ?_
  rintro _ at_ _ _ ⟨a, rfl⟩
  simp only [go_sem, Nat.reduceAdd, Nat.reduceSub, Nat.reduceMul, Nat.reduceEqDiff, Nat.reduceLT, Nat.reduceLeDiff, Nat.reduceBEq, reduceIte, reduceCtorEq, Int.reduceToNat, Int.reduceLE, Int.reduceLT, Int.reduceBEq, Int.reduceBNe]
  refine callC_det (rFormat_any a) rfl rfl ?_
  have hx := fmtS_size a
  generalize fmtS a = x at hx ⊢
  simp only [go_sem, Nat.reduceAdd, Nat.reduceSub, Nat.reduceMul, Nat.reduceEqDiff, Nat.reduceLT, Nat.reduceLeDiff, Nat.reduceBEq, reduceIte, reduceCtorEq, Int.reduceToNat, Int.reduceLE, Int.reduceLT, Int.reduceBEq, Int.reduceBNe]
  refine ⟨by show ((x.size + 1 : Nat) : Int) ≤ 9223372036854775807; omega, ?_⟩
  obtain ⟨L, hL⟩ : ∃ L : List ByteArray, L = [s, x, x ++ ⟨#[48]⟩, ⟨#[50, 48, 50, 54, 45, 50, 45, 48, 51]⟩, ⟨#[50, 48, 50, 54, 45, 48, 50, 45, 50, 57]⟩, ⟨#[50, 48, 50, 52, 45, 48, 50, 45, 50, 57]⟩, ⟨#[49, 57, 54, 57, 45, 49, 50, 45, 51, 49]⟩,
    ⟨#[50, 50, 48, 48, 45, 48, 49, 45, 48, 49]⟩, ⟨#[50, 48, 50, 54, 95, 48, 49, 45, 48, 49]⟩, ⟨#[50, 48, 50, 54, 45, 48, 49, 95, 48, 49]⟩, ⟨#[43, 48, 50, 54, 45, 48, 49, 45, 48, 49]⟩] := ⟨_, rfl⟩
  have hL11 : L.length = 11 := by rw [hL]; rfl
  refine avc_loop (fun env rows => ∃ (i : Nat), i ≤ 11 ∧ env = [(1, .int .i64 day), (9, .own 1 11 0 11), (10, .int .i64 (i : Int))] ∧ rows = [tapeRow 62 l at_, .live 9 1 (els L)])
    (fun env _ => match slot env 10 with | .int _ j => 11 - j.toNat | _ => 0) ?_ ?_
  · exact Cl.here ⟨0, by omega, rfl, by rw [hL]; rfl⟩
  clear hL
  rintro env rows ⟨i, hi, rfl, rfl⟩
  have hc : i = 11 ∨ i < 11 := by omega
  rcases hc with hc | hc
  · have h1 : ¬ ((i : Int) < 11) := by omega
    simp only [go_sem, Nat.reduceAdd, Nat.reduceSub, Nat.reduceMul, Nat.reduceEqDiff, Nat.reduceLT, Nat.reduceLeDiff, Nat.reduceBEq, reduceIte, reduceCtorEq, Int.reduceToNat, Int.reduceLE, Int.reduceLT, Int.reduceBEq, Int.reduceBNe, a9, a9r0, a9r1, a9r2, a9r3, a9r4, a9r5, a9r6, a9r7, a9r8, a9r9, a9r10, a9r11, h1]
    refine callC_det (Format_any day) rfl rfl ?_
    simp only [go_sem, Nat.reduceAdd, Nat.reduceSub, Nat.reduceMul, Nat.reduceEqDiff, Nat.reduceLT, Nat.reduceLeDiff, Nat.reduceBEq, reduceIte, reduceCtorEq, Int.reduceToNat, Int.reduceLE, Int.reduceLT, Int.reduceBEq, Int.reduceBNe]
    refine callC_det (rFormat_any day) rfl rfl ?_
    simp only [go_sem, Nat.reduceAdd, Nat.reduceSub, Nat.reduceMul, Nat.reduceEqDiff, Nat.reduceLT, Nat.reduceLeDiff, Nat.reduceBEq, reduceIte, reduceCtorEq, Int.reduceToNat, Int.reduceLE, Int.reduceLT, Int.reduceBEq, Int.reduceBNe, beq_self_eq_true]
    refine callC_det sane_ok rfl rfl ?_
    simp only [go_sem, Nat.reduceAdd, Nat.reduceSub, Nat.reduceMul, Nat.reduceEqDiff, Nat.reduceLT, Nat.reduceLeDiff, Nat.reduceBEq, reduceIte, reduceCtorEq, Int.reduceToNat, Int.reduceLE, Int.reduceLT, Int.reduceBEq, Int.reduceBNe]
    exact Cl.fin rfl rfl
  · have h1 : ((i : Int) < 11) := by omega
    have h2 : (0 : Int) ≤ (i : Int) := by omega
    have hw1 : IntKind.i64.wrap ((i : Int) + 1) = ((i + 1 : Nat) : Int) := by rw [wrap_i64 (by omega) (by omega)]; omega
    have hlt : i < L.length := by omega
    have hel : (els L).length = 11 := by rw [els_length]; exact hL11
    obtain ⟨z, hz⟩ : ∃ z : ByteArray, (els L).getD i [] = [.str z] := ⟨L[i], els_getD hlt⟩
    have hF := @parse_fmtS z
    simp only [go_sem, Nat.reduceAdd, Nat.reduceSub, Nat.reduceMul, Nat.reduceEqDiff, Nat.reduceLT, Nat.reduceLeDiff, Nat.reduceBEq, reduceIte, reduceCtorEq, Int.reduceToNat, Int.reduceLE, Int.reduceLT, Int.reduceBEq, Int.reduceBNe, a9, a9r0, a9r1, a9r2, a9r3, a9r4, a9r5, a9r6, a9r7, a9r8, a9r9, a9r10, a9r11, h1, h2, Int.toNat_natCast, Nat.zero_add, hz, hel]
    refine callC_det (parse_ok z) rfl rfl ?_
    simp only [go_sem, Nat.reduceAdd, Nat.reduceSub, Nat.reduceMul, Nat.reduceEqDiff, Nat.reduceLT, Nat.reduceLeDiff, Nat.reduceBEq, reduceIte, reduceCtorEq, Int.reduceToNat, Int.reduceLE, Int.reduceLT, Int.reduceBEq, Int.reduceBNe, h1, h2, Int.toNat_natCast, Nat.zero_add, hz, hel]
    refine callC_det (rparse_ok z) rfl rfl ?_
    generalize parseP z = p at hF ⊢
    obtain ⟨p1, p2⟩ := p
    rcases p2 with _ | _
    · simp only [go_sem, Nat.reduceAdd, Nat.reduceSub, Nat.reduceMul, Nat.reduceEqDiff, Nat.reduceLT, Nat.reduceLeDiff, Nat.reduceBEq, reduceIte, reduceCtorEq, Int.reduceToNat, Int.reduceLE, Int.reduceLT, Int.reduceBEq, Int.reduceBNe, h1, h2, Int.toNat_natCast, Nat.zero_add, hz, hel, bne_self_eq_false]
      try rw [hw1]
      refine Cl.here ⟨⟨i + 1, by omega, rfl, rfl⟩, ?_⟩
      simp only [go_sem, Nat.reduceAdd, Nat.reduceSub, Nat.reduceMul, Nat.reduceEqDiff, Nat.reduceLT, Nat.reduceLeDiff, Nat.reduceBEq, reduceIte, reduceCtorEq, Int.reduceToNat, Int.reduceLE, Int.reduceLT, Int.reduceBEq, Int.reduceBNe]
      omega
    · have hF := hF rfl
      have hA := Format_any p1
      rw [show fmtS p1 = z from hF] at hA
      simp only [go_sem, Nat.reduceAdd, Nat.reduceSub, Nat.reduceMul, Nat.reduceEqDiff, Nat.reduceLT, Nat.reduceLeDiff, Nat.reduceBEq, reduceIte, reduceCtorEq, Int.reduceToNat, Int.reduceLE, Int.reduceLT, Int.reduceBEq, Int.reduceBNe, h1, h2, Int.toNat_natCast, Nat.zero_add, hz, hel, bne_self_eq_false]
      refine callD_det hA rfl rfl ?_
      simp only [go_sem, Nat.reduceAdd, Nat.reduceSub, Nat.reduceMul, Nat.reduceEqDiff, Nat.reduceLT, Nat.reduceLeDiff, Nat.reduceBEq, reduceIte, reduceCtorEq, Int.reduceToNat, Int.reduceLE, Int.reduceLT, Int.reduceBEq, Int.reduceBNe, h1, h2, Int.toNat_natCast, Nat.zero_add, hz, hel, bne_self_eq_false]
      try rw [hw1]
      refine Cl.here ⟨⟨i + 1, by omega, rfl, rfl⟩, ?_⟩
      simp only [go_sem, Nat.reduceAdd, Nat.reduceSub, Nat.reduceMul, Nat.reduceEqDiff, Nat.reduceLT, Nat.reduceLeDiff, Nat.reduceBEq, reduceIte, reduceCtorEq, Int.reduceToNat, Int.reduceLE, Int.reduceLT, Int.reduceBEq, Int.reduceBNe]
      omega
end Go.Proofs.YtpmlihjdegekgaaDoor
