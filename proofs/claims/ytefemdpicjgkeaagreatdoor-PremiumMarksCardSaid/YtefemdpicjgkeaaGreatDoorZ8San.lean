/- The examples of the chapter. -/
import Derived.Test.YtefemdpicjgkeaaGreatDoorZ8SPl
set_option linter.unusedSimpArgs false
set_option linter.unusedVariables false
set_option linter.unusedSectionVars false
namespace Go.Proofs.YtefemdpicjgkeaaGreatDoor
open Go Go.Abs
set_option linter.unusedSimpArgs false
set_option linter.unusedVariables false

theorem night_ok (r : Int) : AFn Tryz.prog 32 [.int .i64 r] [] (fun v rs => v = .agg [.str nightB, .str nightB, .int .i64 r, .int .i64 1320, .int .i64 360, .int .i64 127, .int .i64 0] ∧ rs = []) := by
  refine afn Tryz.func32 a32_ok (by simp [a32]) ?_
  simp only [go_sem,a32,a32r0,a32r1]
  exact Cl.fin rfl ⟨rfl, rfl⟩
theorem cov_ex (r t : Int) (h0 : 0 ≤ r) (h1 : r ≤ 1000) (ht : 0 ≤ t) (ht2 : t ≤ 120968639) : CovP z0 [] (nW r) t = (decide (1320 ≤ t % 1440) || decide (t % 1440 < 360)) := by
  unfold CovP
  rw [covT_night rfl rfl rfl rfl]
  have : vldE z0 [] [nW r] = 0 := by
    unfold vldE winsP
    rw [vZ_z0, validP_nil]
    simp [winP_nW h0 h1]
  rw [this]
  simp [ht, ht2]
theorem covC_ok (r t : Int) (h0 : 0 ≤ r) (h1 : r ≤ 1000) (ht : 0 ≤ t) (ht2 : t ≤ 120968639) : AFn Tryz.prog 33 [.agg [.int .i64 0, .nils], .nils, .agg [.str nightB, .str nightB, .int .i64 r, .int .i64 1320, .int .i64 360, .int .i64 127, .int .i64 0], .int .i64 t] []
    (fun v rs => v = .bool (decide (1320 ≤ t % 1440) || decide (t % 1440 < 360)) ∧ rs = []) := by
  have h := Covers_ok z0 [] (by simp) (nW r) t
  rw [cov_ex r t h0 h1 ht ht2] at h
  exact h.le (by simp [leL, le, Zn.v, z0, els, cel_win, nW])
theorem mark_ex : AFn Tryz.prog 12 [.agg [.int .i64 0, .nils], .nils, .pure 7 (els wsEx), .pure 4 (els [pEx])] []
    (fun v rs => v = .tup [.own 0 1 0 1, .int .i64 0] ∧ rs = [.live 70 3 [[.int .i64 3, .str lateB, .int .i64 160]]]) := by
  have h := Mark_ok z0 [] (by simp) wsEx (by simp [wsEx]) [pEx] (by simp)
  have e : markE z0 [] wsEx [pEx] = 0 := by
    unfold markE vldE winsP
    rw [vZ_z0, validP_nil]
    simp [wsEx, winP_nW, winP_lW]
    decide
  simp only [e, if_true, markL_ex] at h
  exact h.le (by simp [leL, le, Zn.v, z0, els])
theorem valid_ex : AFn Tryz.prog 15 [.agg [.int .i64 0, .nils], .nils, .pure 7 (els [lW])] [] (fun v rs => v = .int .i64 0 ∧ rs = []) := by
  have h := PValid_ok z0 [] (by simp) [lW] (by simp)
  have e : vldE z0 [] [lW] = 0 := by
    unfold vldE winsP
    rw [vZ_z0, validP_nil]
    simp [winP_lW]
  rw [e] at h
  exact h.le (by simp [leL, le, Zn.v, z0, els])

theorem sane_ok : AFn Tryz.prog 17 [] [] (fun v rs => v = .bool true ∧ rs = []) := by
  refine afn Tryz.func17 a17_ok (by simp [a17]) ?_
  simp only [go_sem,a17,a17r0,a17r1,a17r2,a17r3,a17r4]
  refine callC_det (night_ok 2) rfl rfl ?_
  simp only [go_sem,a17,a17r0,a17r1,a17r2,a17r3,a17r4]
  refine callD_det (night_ok 1) rfl rfl ?_
  simp only [go_sem]
  refine callD_of [] [1,2] (by simp only [go_sem]) (by decide) rfl rfl mark_ex ?_
  rintro _ _ ⟨rfl, rfl⟩
  refine ⟨.inr ⟨rfl, rfl⟩, ?_⟩
  simp only [go_sem,a17,a17r0,a17r1,a17r2,a17r3,a17r4]
  refine callC_det (night_ok 1) rfl rfl ?_
  simp only [go_sem,a17,a17r0,a17r1,a17r2,a17r3,a17r4]
  refine callC_det (r := .bool true) (covC_ok 1 5640 (by decide) (by decide) (by decide) (by decide)) rfl rfl ?_
  simp only [go_sem,a17,a17r0,a17r1,a17r2,a17r3,a17r4]
  refine callC_det (night_ok 1) rfl rfl ?_
  simp only [go_sem,a17,a17r0,a17r1,a17r2,a17r3,a17r4]
  refine callC_det (r := .bool false) (covC_ok 1 5639 (by decide) (by decide) (by decide) (by decide)) rfl rfl ?_
  simp only [go_sem,a17,a17r0,a17r1,a17r2,a17r3,a17r4]
  refine callC_det (night_ok 1) rfl rfl ?_
  simp only [go_sem,a17,a17r0,a17r1,a17r2,a17r3,a17r4]
  refine callC_det (r := .bool true) (covC_ok 1 359 (by decide) (by decide) (by decide) (by decide)) rfl rfl ?_
  simp only [go_sem,a17,a17r0,a17r1,a17r2,a17r3,a17r4]
  have hs : (lateB.toList == ({ data := #[108, 97, 116, 101] } : ByteArray).toList) = true := sEq_refl lateB
  rw [hs]
  simp only [go_sem,a17,a17r0,a17r1,a17r2,a17r3,a17r4]
  refine callC_of [] [4] (by decide) rfl rfl valid_ex ?_
  rintro _ _ ⟨rfl, rfl⟩
  refine ⟨.inr ⟨rfl, rfl⟩, ?_⟩
  simp only [go_sem,a17,a17r0,a17r1,a17r2,a17r3,a17r4]
  exact Cl.fin rfl ⟨rfl, rfl⟩

end Go.Proofs.YtefemdpicjgkeaaGreatDoor
