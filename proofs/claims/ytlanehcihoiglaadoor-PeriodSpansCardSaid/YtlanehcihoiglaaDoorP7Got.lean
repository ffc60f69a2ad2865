/- A pay calendar that came in. -/
import Derived.Test.YtlanehcihoiglaaDoorP7LSpn
import Derived.Test.YtlanehcihoiglaaDoorAbsMd
set_option linter.unusedSimpArgs false
set_option linter.unusedVariables false
set_option linter.unusedSectionVars false
namespace Go.Proofs.YtlanehcihoiglaaDoor
open Go Go.Abs
set_option maxRecDepth 100000 in
theorem gotV_cal {m : Nat} {a : AVal} (h : GotV Tryd.prog (m + 2) 24 a) : ∃ k x : Int, a = .agg [.int .i64 k, .int .i64 x] := by
  obtain ⟨cs, rfl, hl, hf⟩ := gotV_struct (m := m + 1) Tryd.underlying24 h
  have hc : Tryd.prog.cellsOf 24 = 2 := by kernel_rfl
  have hci : Tryd.prog.cellsOf 3 = 1 := by kernel_rfl
  rw [hc] at hl
  obtain ⟨c0, l0, rfl, hl0⟩ := list_cons hl
  obtain ⟨c1, l1, rfl, hl1⟩ := list_cons hl0
  obtain rfl := list_nil hl1
  simp only [List.mem_cons, List.not_mem_nil, or_false, forall_eq_or_imp, forall_eq, hci] at hf
  simp only [List.drop_zero, List.drop_succ_cons, List.take_succ_cons, List.take_zero] at hf
  obtain ⟨f0, f1⟩ := hf
  obtain ⟨n0, e0, _⟩ := got_int (m := m) Tryd.underlying3 f0
  obtain ⟨n1, e1, _⟩ := got_int (m := m) Tryd.underlying3 f1
  simp at e0 e1
  subst e0 e1
  exact ⟨n0, n1, rfl⟩
end Go.Proofs.YtlanehcihoiglaaDoor
