/- Works without events, whatever the plan. -/
import Derived.Test.YtpincjkjoeopkaaGreatDoorF2Shf
import Derived.Test.YtpincjkjoeopkaaGreatDoorF9Lf4
set_option linter.unusedSimpArgs false
set_option linter.unusedVariables false
set_option linter.unusedSectionVars false
namespace Go.Proofs.YtpincjkjoeopkaaGreatDoor
open Go Go.Abs
set_option linter.unusedSimpArgs false
set_option linter.unusedVariables false

def z00 : Zn := ⟨0, []⟩
theorem pvalidN_ok : AFn Tryz.prog 152 [.nils] [] (fun v rs => v = .int .i64 0 ∧ rs = []) :=
  run_afn (T := tab) (L := []) 60 [(.int .i64 0, [])] (by kernel_rfl) (by intro o h; rw [List.mem_singleton] at h; subst h; exact ⟨rfl, rfl⟩)
theorem assignN_ok (pl : List Sf) (hl : plE z00 pl = 0) : AFn Tryz.prog 69 [.agg [.int .i64 0, .nils], .pure 3 (els pl), .nils, .int .i64 0, .int .i64 0] [] (fun v rs => v = .tup [.nils, .int .i64 0] ∧ rs = []) := by
  have hll := plE_len hl
  have hS := spans_ok z00 pl (by omega)
  have hS2 := hS.le (args' := [.agg [.int .i64 0, .nils], .pure 3 (els pl)]) (by simp [leL, le, Zn.v, els, z00])
  unfold spsQ at hS2
  simp only [if_pos hl] at hS2
  refine afn Tryz.func69 a69_ok (by simp [a69, s69]) ?_
  simp only [go_sem,a69,s69]
  refine callC_of [] [] (by simp) rfl (bindL_clean _ (by first | rfl | simp only [go_sem,els_clean])) hS2 ?_
  rintro _ _ ⟨rfl, rfl⟩
  refine ⟨.inl rfl, ?_⟩
  simp only [go_sem,a69,s69]
  refine callC_det pvalidN_ok rfl rfl ?_
  simp only [go_sem,a69,s69]
  refine avc_loop (fun env rows => env = [(1, .pure 3 (els pl)), (3, .int .i64 0), (4, .int .i64 0), (5, .ref 0 1 0 0), (12, .own 1 pl.length 0 pl.length), (15, .mref 2), (16, .nils), (51, .nils), (52, .int .i64 0), (53, .int .i64 0)] ∧ rows = [.live 32 2 [[.int .i64 0, .nils]], .live 64 2 (els (List.map (spV z00) pl)), .obj (.map true [.int .i64, .int .i64] [])])
    (fun env _ => 0) ?_ ?_
  · exact Cl.here ⟨rfl, rfl⟩
  rintro env rows ⟨rfl, rfl⟩
  simp only [go_sem,a69,s69]
  exact Cl.fin rfl ⟨rfl, rfl⟩
theorem tsValidN_ok : AFn Tryz.prog 57 [.agg rulesL] [] (fun v rs => v = .int .i64 0 ∧ rs = []) :=
  run_afn (T := tab) (L := leaves) 60 [(.int .i64 0, [])] (by kernel_rfl) (by intro o h; rw [List.mem_singleton] at h; subst h; exact ⟨rfl, rfl⟩)
theorem effN_ok : AFn Tryz.prog 67 [.nils, .int .i64 1] [] (fun v rs => v = .tup [.nils, .int .i64 0] ∧ rs = []) :=
  run_afn (T := tab) (L := leaves) 60 [(.tup [.nils, .int .i64 0], [])] (by kernel_rfl) (by intro o h; rw [List.mem_singleton] at h; subst h; exact ⟨rfl, rfl⟩)
theorem pairN_ok : AFn Tryz.prog 68 [.nils, .int .i64 900] [] (fun v rs => v = .tup [.nils, .nils, .int .i64 0] ∧ rs = []) :=
  run_afn (T := tab) (L := leaves) 60 [(.tup [.nils, .nils, .int .i64 0], [])] (by kernel_rfl) (by intro o h; rw [List.mem_singleton] at h; subst h; exact ⟨rfl, rfl⟩)
theorem worksN_ok (pl : List Sf) (hl : plE z00 pl = 0) : AFn Tryz.prog 20 [.agg rulesL, .pure 3 (els pl), .nils, .int .i64 1] [] (fun v rs => v = .tup [.nils, .nils, .int .i64 0] ∧ rs = []) := by
  have hll := plE_len hl
  have hV := (sValid_ok z00 pl (by omega)).le (args' := [.agg [.int .i64 0, .nils], .pure 3 (els pl)]) (by simp [leL, le, Zn.v, els, z00])
  rw [hl] at hV
  have hT := tsValidN_ok
  refine afn Tryz.func20 a20_ok (by simp [a20, s20]) ?_
  unfold rulesL at *
  simp only [go_sem,a20,s20]
  refine callC_det hT rfl rfl ?_
  simp only [go_sem,a20,s20]
  refine callC_det hV (by simp only [go_sem,els_clean]) rfl ?_
  simp only [go_sem,a20,s20]
  refine callC_det effN_ok rfl rfl ?_
  simp only [go_sem,a20,s20]
  refine callC_det pairN_ok rfl rfl ?_
  simp only [go_sem,a20,s20]
  refine callC_det (assignN_ok pl hl) (by simp only [go_sem,els_clean]) rfl ?_
  simp only [go_sem,a20,s20]
  refine avc_loop (fun env rows => env = [(1, .pure 3 (els pl)), (4, .ref 0 1 0 0), (16, .nils), (18, .nils), (19, .nils), (71, .nils), (72, .int .i64 0), (73, .int .i64 0)] ∧ rows = [.live 42 14 [[.int .i64 0, .nils, .int .i64 900, .int .i64 0, .int .i64 0, .int .i64 0, .int .i64 0, .int .i64 0, .nils, .str ⟨#[110, 111, 114, 109, 97, 108]⟩, .pure 2 [[.str ⟨#[111, 116, 49]⟩, .int .i64 480]], .nils, .nils, .nils]]])
    (fun env _ => 0) ?_ ?_
  · exact Cl.here ⟨rfl, rfl⟩
  rintro env rows ⟨rfl, rfl⟩
  simp only [go_sem,a20,s20]
  exact Cl.fin rfl ⟨rfl, rfl⟩

end Go.Proofs.YtpincjkjoeopkaaGreatDoor
