/- Arguments: lists of pieces and of events that came in. -/
import Derived.Test.YtodbafiepdcfbaaA5Gen
import Derived.Test.YtodbafiepdcfbaaAbsMd
set_option linter.unusedSimpArgs false
set_option linter.unusedVariables false
set_option linter.unusedSectionVars false
namespace Go.Proofs.Ytodbafiepdcfbaa
open Go Go.Abs
set_option linter.unusedSimpArgs false
set_option linter.unusedVariables false
set_option maxRecDepth 4000 in
theorem got_pc {m : Nat} {cs : List AVal} (h : Got Try.prog (m + 3) 50 cs) : ∃ e : Pc, cs = Cel.c e := by
  obtain ⟨hl, hf⟩ := got_struct (m := m + 2) Try.underlying50 h
  have hc : Try.prog.cellsOf 50 = 4 := by kernel_rfl
  have hck : Try.prog.cellsOf 48 = 2 := by kernel_rfl
  have hci : Try.prog.cellsOf 3 = 1 := by kernel_rfl
  have hcs : Try.prog.cellsOf 9 = 1 := by kernel_rfl
  rw [hc] at hl
  obtain ⟨c0, l0, rfl, hl0⟩ := list_cons hl
  obtain ⟨c1, l1, rfl, hl1⟩ := list_cons hl0
  obtain ⟨c2, l2, rfl, hl2⟩ := list_cons hl1
  obtain ⟨c3, l3, rfl, hl3⟩ := list_cons hl2
  obtain rfl := list_nil hl3
  simp only [List.mem_cons, List.not_mem_nil, or_false, forall_eq_or_imp, forall_eq, hck, hci, hcs] at hf
  simp only [List.drop_zero, List.drop_succ_cons, List.take_succ_cons, List.take_zero] at hf
  obtain ⟨f0, f1, f2⟩ := hf
  obtain ⟨_, k1⟩ := got_struct (m := m + 1) Try.underlying48 f1
  simp only [List.mem_cons, List.not_mem_nil, or_false, forall_eq_or_imp, forall_eq, hci, List.drop_zero, List.drop_succ_cons, List.take_succ_cons, List.take_zero] at k1
  obtain ⟨n0, e0, _⟩ := got_int (m := m + 1) Try.underlying3 f0
  obtain ⟨n1, e1, _⟩ := got_int (m := m) Try.underlying3 k1.1
  obtain ⟨n2, e2, _⟩ := got_int (m := m) Try.underlying3 k1.2
  obtain ⟨s3, e3, _⟩ := got_str (m := m + 1) Try.underlying9 f2
  simp at e0 e1 e2 e3
  subst e0 e1 e2 e3
  exact ⟨⟨n0, n1, n2, s3⟩, rfl⟩
set_option maxRecDepth 100000 in
theorem got_pcs {a : AVal} (h : GotV Try.prog 6 23 a) : ∃ l : List Pc, a = .pure 4 (els l) ∧ l.length ≤ 9223372036854775807 := by
  obtain ⟨b, rfl, hb, _⟩ := gotV_els (α := Pc) (m := 5) (Q := fun _ => True) Try.underlying23 (fun _ h => by obtain ⟨x, hx⟩ := got_pc (m := 2) h; exact ⟨x, hx, trivial⟩) (by kernel_rfl) h
  exact ⟨b, rfl, by simpa [maxLen] using hb⟩
set_option maxRecDepth 4000 in
theorem got_ev {m : Nat} {cs : List AVal} (h : Got Try.prog (m + 3) 64 cs) : ∃ e : Ev, cs = Cel.c e := by
  obtain ⟨hl, hf⟩ := got_struct (m := m + 2) Try.underlying64 h
  have hc : Try.prog.cellsOf 64 = 7 := by kernel_rfl
  have hck : Try.prog.cellsOf 62 = 2 := by kernel_rfl
  have hci : Try.prog.cellsOf 3 = 1 := by kernel_rfl
  rw [hc] at hl
  obtain ⟨c0, l0, rfl, hl0⟩ := list_cons hl
  obtain ⟨c1, l1, rfl, hl1⟩ := list_cons hl0
  obtain ⟨c2, l2, rfl, hl2⟩ := list_cons hl1
  obtain ⟨c3, l3, rfl, hl3⟩ := list_cons hl2
  obtain ⟨c4, l4, rfl, hl4⟩ := list_cons hl3
  obtain ⟨c5, l5, rfl, hl5⟩ := list_cons hl4
  obtain ⟨c6, l6, rfl, hl6⟩ := list_cons hl5
  obtain rfl := list_nil hl6
  simp only [List.mem_cons, List.not_mem_nil, or_false, forall_eq_or_imp, forall_eq, hck, hci] at hf
  simp only [List.drop_zero, List.drop_succ_cons, List.take_succ_cons, List.take_zero] at hf
  obtain ⟨f0, f1, f2, f3, f4⟩ := hf
  obtain ⟨_, k0⟩ := got_struct (m := m + 1) Try.underlying62 f0
  obtain ⟨_, k4⟩ := got_struct (m := m + 1) Try.underlying62 f4
  simp only [List.mem_cons, List.not_mem_nil, or_false, forall_eq_or_imp, forall_eq, hci, List.drop_zero, List.drop_succ_cons, List.take_succ_cons, List.take_zero] at k0 k4
  obtain ⟨n0, e0, _⟩ := got_int (m := m) Try.underlying3 k0.1
  obtain ⟨n1, e1, _⟩ := got_int (m := m) Try.underlying3 k0.2
  obtain ⟨n2, e2, _⟩ := got_int (m := m + 1) Try.underlying3 f1
  obtain ⟨n3, e3, _⟩ := got_int (m := m + 1) Try.underlying3 f2
  obtain ⟨n4, e4, _⟩ := got_int (m := m + 1) Try.underlying3 f3
  obtain ⟨n5, e5, _⟩ := got_int (m := m) Try.underlying3 k4.1
  obtain ⟨n6, e6, _⟩ := got_int (m := m) Try.underlying3 k4.2
  simp at e0 e1 e2 e3 e4 e5 e6
  subst e0 e1 e2 e3 e4 e5 e6
  exact ⟨⟨n0, n1, n2, n3, n4, n5, n6⟩, rfl⟩
set_option maxRecDepth 100000 in
theorem got_evs {a : AVal} (h : GotV Try.prog 6 57 a) : ∃ l : List Ev, a = .pure 7 (els l) ∧ l.length ≤ 9223372036854775807 := by
  obtain ⟨b, rfl, hb, _⟩ := gotV_els (α := Ev) (m := 5) (Q := fun _ => True) Try.underlying57 (fun _ h => by obtain ⟨x, hx⟩ := got_ev (m := 2) h; exact ⟨x, hx, trivial⟩) (by kernel_rfl) h
  exact ⟨b, rfl, by simpa [maxLen] using hb⟩
theorem gok (w : World) : GOk (ctx0 w) := ⟨Nat.zero_le _, fun b hb => (Nat.not_lt_zero _ hb).elim, trivial⟩

end Go.Proofs.Ytodbafiepdcfbaa
