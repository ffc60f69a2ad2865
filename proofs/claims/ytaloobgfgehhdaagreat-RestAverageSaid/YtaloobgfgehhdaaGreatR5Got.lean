/- Arguments: lists of pieces and of events that came in. -/
import Derived.Test.YtaloobgfgehhdaaGreatR5Gen
import Derived.Test.YtaloobgfgehhdaaGreatAbsMd
set_option linter.unusedSimpArgs false
set_option linter.unusedVariables false
set_option linter.unusedSectionVars false
namespace Go.Proofs.YtaloobgfgehhdaaGreat
open Go Go.Abs
set_option linter.unusedSimpArgs false
set_option linter.unusedVariables false
set_option maxRecDepth 4000 in
theorem got_pc {m : Nat} {cs : List AVal} (h : Got Tryz.prog (m + 3) 81 cs) : ∃ e : Pc, cs = Cel.c e := by
  obtain ⟨hl, hf⟩ := got_struct (m := m + 2) Tryz.underlying81 h
  have hc : Tryz.prog.cellsOf 81 = 4 := by kernel_rfl
  have hck : Tryz.prog.cellsOf 53 = 2 := by kernel_rfl
  have hci : Tryz.prog.cellsOf 3 = 1 := by kernel_rfl
  have hcs : Tryz.prog.cellsOf 9 = 1 := by kernel_rfl
  rw [hc] at hl
  obtain ⟨c0, l0, rfl, hl0⟩ := list_cons hl
  obtain ⟨c1, l1, rfl, hl1⟩ := list_cons hl0
  obtain ⟨c2, l2, rfl, hl2⟩ := list_cons hl1
  obtain ⟨c3, l3, rfl, hl3⟩ := list_cons hl2
  obtain rfl := list_nil hl3
  simp only [List.mem_cons, List.not_mem_nil, or_false, forall_eq_or_imp, forall_eq, hck, hci, hcs] at hf
  simp only [List.drop_zero, List.drop_succ_cons, List.take_succ_cons, List.take_zero] at hf
  obtain ⟨f0, f1, f2⟩ := hf
  obtain ⟨_, k1⟩ := got_struct (m := m + 1) Tryz.underlying53 f1
  simp only [List.mem_cons, List.not_mem_nil, or_false, forall_eq_or_imp, forall_eq, hci, List.drop_zero, List.drop_succ_cons, List.take_succ_cons, List.take_zero] at k1
  obtain ⟨n0, e0, _⟩ := got_int (m := m + 1) Tryz.underlying3 f0
  obtain ⟨n1, e1, _⟩ := got_int (m := m) Tryz.underlying3 k1.1
  obtain ⟨n2, e2, _⟩ := got_int (m := m) Tryz.underlying3 k1.2
  obtain ⟨s3, e3, _⟩ := got_str (m := m + 1) Tryz.underlying9 f2
  simp at e0 e1 e2 e3
  subst e0 e1 e2 e3
  exact ⟨⟨n0, n1, n2, s3⟩, rfl⟩
set_option maxRecDepth 100000 in
theorem got_pcs {a : AVal} (h : GotV Tryz.prog 6 56 a) : ∃ l : List Pc, a = .pure 4 (els l) ∧ l.length ≤ 9223372036854775807 := by
  obtain ⟨b, rfl, hb, _⟩ := gotV_els (α := Pc) (m := 5) (Q := fun _ => True) Tryz.underlying56 (fun _ h => by obtain ⟨x, hx⟩ := got_pc (m := 2) h; exact ⟨x, hx, trivial⟩) (by kernel_rfl) h
  exact ⟨b, rfl, by simpa [maxLen] using hb⟩
theorem gok (w : World) : GOk (ctx0 w) := ⟨Nat.zero_le _, fun b hb => (Nat.not_lt_zero _ hb).elim, trivial⟩

end Go.Proofs.YtaloobgfgehhdaaGreat
