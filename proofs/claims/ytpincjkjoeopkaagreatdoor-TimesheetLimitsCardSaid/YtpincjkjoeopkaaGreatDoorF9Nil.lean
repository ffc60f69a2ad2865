/- The sheet: no bands, no premiums, no anomalies. -/
import Derived.Test.YtpincjkjoeopkaaGreatDoorF9Sam
set_option linter.unusedSimpArgs false
set_option linter.unusedVariables false
set_option linter.unusedSectionVars false
namespace Go.Proofs.YtpincjkjoeopkaaGreatDoor
open Go Go.Abs
set_option linter.unusedSimpArgs false
set_option linter.unusedVariables false

theorem addPremN_ok {rows : List Row} {s : Nat} (ha : inAll rows) (hs : s < rows.length) : AFn Tryz.prog 44 [.ref s 1 0 0, .nils] rows (fun v rs => v = .tup [] ∧ rs = rows) := by
  refine afn Tryz.func44 a44_ok (by simp [a44, s44]) ?_
  simp only [go_sem,a44,s44]
  refine avc_loop (fun env rs => env = [(0, .ref s 1 0 0), (6, .nils), (7, .int .i64 0), (8, .int .i64 0)] ∧ rs = rows)
    (fun env _ => 0) ?_ ?_
  · exact Cl.here ⟨rfl, rfl⟩
  rintro env rows' ⟨rfl, rfl⟩
  simp only [go_sem,a44,s44]
  exact Cl.here ⟨rfl, rfl⟩
theorem addAnoN_ok {rows : List Row} {s : Nat} (ha : inAll rows) (hs : s < rows.length) (z0 z1 : AVal) (c0 : clean z0 = true) (c1 : clean z1 = true) (o0 : Abs.one z0 = true) (o1 : Abs.one z1 = true) : AFn Tryz.prog 46 [.ref s 1 0 0, .agg [z0, z1], .nils] rows (fun v rs => v = .tup [] ∧ rs = rows) := by
  refine afn Tryz.func46 a46_ok (by simp [a46, s46]) ?_
  simp only [go_sem,a46,s46,o0,o1]
  refine avc_loop (fun env rs => env = [(0, .ref s 1 0 0), (4, .ref rows.length 1 0 0), (11, .nils), (12, .int .i64 0), (13, .int .i64 0)] ∧ rs = rows ++ [.live 32 2 [[z0, z1]]])
    (fun env _ => 0) ?_ ?_
  · exact Cl.here ⟨rfl, rfl⟩
  rintro env rows' ⟨rfl, rfl⟩
  simp only [go_sem,a46,s46]
  refine Cl.drop (by omega) ha (by simp [inEnv, inV, inL]) ?_
  exact Cl.here ⟨rfl, rfl⟩
theorem addBandsN_ok {rows : List Row} {s : Nat} (ha : inAll rows) (hs : s < rows.length) : AFn Tryz.prog 43 [.ref s 1 0 0, .nils] rows (fun v rs => v = .tup [] ∧ rs = rows) := by
  refine afn Tryz.func43 a43_ok (by simp [a43, s43]) ?_
  simp only [go_sem,a43,s43]
  refine avc_loop (fun env rs => env = [(0, .ref s 1 0 0), (1, .nils), (4, .mref rows.length), (11, .nils), (12, .int .i64 0), (13, .int .i64 0)] ∧ rs = rows ++ [.obj (.map false [.int .i64] [])])
    (fun env _ => 0) ?_ ?_
  · exact Cl.here ⟨rfl, rfl⟩
  rintro env rows' ⟨rfl, rfl⟩
  simp only [go_sem,a43,s43,app_at0,List.append_assoc]
  refine avc_loop (fun env rs => env = [(0, .ref s 1 0 0), (1, .nils), (22, .itref (rows.length + 1) rows.length)] ∧ rs = rows ++ [.obj (.map false [.int .i64] []), .obj (.iter 0 [])])
    (fun env _ => 0) ?_ ?_
  · rw [show (rows ++ [Row.obj (AObj.map false [CK.int .i64] [])]).length = rows.length + 1 by simp]
    exact Cl.here ⟨rfl, rfl⟩
  rintro env rows' ⟨rfl, rfl⟩
  simp only [go_sem,a43,s43,app_at0,app_at,List.append_assoc]
  unfold nextC evNext
  simp only [app_at0, app_at, List.getElem?_cons_zero, List.getElem?_cons_succ]
  refine ⟨rfl, by omega, fun _ => ?_, fun i hi _ => absurd hi (by simp)⟩
  simp only [go_sem,a43,s43]
  refine Cl.drop (by omega) ha (by simp [inEnv, inV, inL]) ?_
  exact Cl.here ⟨rfl, rfl⟩

end Go.Proofs.YtpincjkjoeopkaaGreatDoor
