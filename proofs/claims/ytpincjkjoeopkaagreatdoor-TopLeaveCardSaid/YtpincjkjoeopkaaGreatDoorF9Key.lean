/- The keys of a map whose keys are a day and a name: what the shelf must know. -/
import Derived.Test.YtpincjkjoeopkaaGreatDoorF9Cmp
import Derived.Test.YtpincjkjoeopkaaGreatDoorAbsMf
import Derived.DeepKeys5
set_option linter.unusedSimpArgs false
set_option linter.unusedVariables false
set_option linter.unusedSectionVars false
namespace Go.Proofs.YtpincjkjoeopkaaGreatDoor
open Go Go.Abs Go.Maps
open Go.RowKit (Below)
set_option linter.unusedSimpArgs false
set_option linter.unusedVariables false
set_option maxRecDepth 100000

theorem kl_struct {P : Program} {d : Nat} {t : TypeId} {cs : List Value} {fs : Array Field} (h : P.underlying t = some (.struct fs)) :
    P.keyLits (d + 1) t cs = if cs.length = P.cellsOf t ∧ fs.all (·.name != "_") = true then (fs.toList.mapM fun f => P.keyLits d f.type ((cs.drop f.offset).take (P.cellsOf f.type))).map List.flatten else none := by
  rw [Program.keyLits.eq_def]; simp only [h]
theorem kl_int {P : Program} {d : Nat} {t : TypeId} {cs : List Value} {q : IntKind} {ls : List Lit} (h : P.underlying t = some (.int q)) (hk : P.keyLits (d + 1) t cs = some ls) : ∃ n, cs = [.int q n] ∧ (Lit.int q n).wf = true ∧ ls = [.int q n] := by
  rw [Program.keyLits.eq_def] at hk
  rcases cs with _ | ⟨v, _ | ⟨_, _⟩⟩
  · simp [h] at hk
  · cases v <;> simp only [h] at hk <;> try (simp at hk; done)
    split at hk
    · rename_i hc
      cases hk
      obtain ⟨rfl, hw⟩ := hc
      exact ⟨_, rfl, hw, rfl⟩
    · cases hk
  · simp [h] at hk
theorem kl_str {P : Program} {d : Nat} {t : TypeId} {cs : List Value} {ls : List Lit} (h : P.underlying t = some .string) (hk : P.keyLits (d + 1) t cs = some ls) : ∃ n, cs = [.string n] ∧ n.size ≤ maxLen ∧ ls = [.string n.data.toList] := by
  rw [Program.keyLits.eq_def] at hk
  rcases cs with _ | ⟨v, _ | ⟨_, _⟩⟩
  · simp [h] at hk
  · cases v <;> simp only [h] at hk <;> try (simp at hk; done)
    split at hk
    · cases hk; exact ⟨_, rfl, by assumption, rfl⟩
    · cases hk
  · simp [h] at hk
theorem sizeT : Tryz.prog.types.size + 1 = (Tryz.prog.types.size - 1) + 1 + 1 := by kernel_rfl
theorem c3 : Tryz.prog.cellsOf 3 = 1 := by kernel_rfl
theorem c2 : Tryz.prog.cellsOf 9 = 1 := by kernel_rfl
theorem ck : Tryz.prog.cellsOf 235 = 2 := by kernel_rfl
theorem list_two {α : Type} {l : List α} (h : l.length = 2) : ∃ a b, l = [a, b] := by
  match l, h with
  | [a, b], _ => exact ⟨a, b, rfl⟩
theorem keyOf_inv (v : Value) (l : Lit) (h : keyOf Tryz.prog 235 v = some l) : ∃ d n, v = .agg #[.int .i64 d, .string n] ∧ (Lit.int .i64 d).wf = true ∧ n.size ≤ maxLen ∧ l = .string (keyBytes [.int .i64 d, .string n.data.toList]) := by
  unfold keyOf at h
  rw [Tryz.underlying235] at h
  simp only at h
  split at h
  · rename_i hf
    simp only [Bool.and_eq_true] at hf
    rw [sizeT, kl_struct Tryz.underlying235] at h
    split at h
    · rename_i hc
      obtain ⟨hc, _⟩ := hc
      rw [ck] at hc
      obtain ⟨x, y, hxy⟩ := list_two hc
      rw [hxy] at h
      simp only [List.mapM_cons, List.mapM_nil, c3, c2, List.drop_succ_cons, List.drop_zero, List.take_succ_cons, List.take_zero, Option.bind_eq_bind, Option.pure_def] at h
      cases h1 : Tryz.prog.keyLits (Tryz.prog.types.size - 1 + 1) 3 [x] with
      | none => rw [h1] at h; cases h
      | some l1 =>
        cases h2 : Tryz.prog.keyLits (Tryz.prog.types.size - 1 + 1) 9 [y] with
        | none => rw [h1, h2] at h; cases h
        | some l2 =>
          rw [h1, h2] at h
          obtain ⟨d, e1, w1, rfl⟩ := kl_int Tryz.underlying3 h1
          obtain ⟨n, e2, w2, rfl⟩ := kl_str Tryz.underlying9 h2
          cases e1; cases e2
          refine ⟨d, n, ?_, w1, w2, ?_⟩
          · have hf := hf.2
            unfold Value.formed at hf
            split at hf
            · rename_i cs _
              congr 1
              exact Array.toList_inj.1 hxy
            · cases hf
            · rw [Tryz.underlying235] at hf; cases hf
          · simpa using h.symm
    · cases h
  · cases h
theorem keyOf_ak {d : Int} {n : ByteArray} (h1 : (Lit.int .i64 d).wf = true) (h2 : n.size ≤ maxLen) : keyOf Tryz.prog 235 (.agg #[.int .i64 d, .string n]) = some (.string (keyBytes [.int .i64 d, .string n.data.toList])) := by
  have hk : Tryz.prog.keyType 235 = true := by kernel_rfl
  unfold keyOf
  rw [Tryz.underlying235]
  simp only
  rw [if_pos (by rw [hk]; unfold Value.formed; simp only [Tryz.underlying235, ck]; rfl), sizeT, kl_struct Tryz.underlying235, if_pos ⟨by rw [ck]; rfl, by kernel_rfl⟩]
  have e1 : Tryz.prog.keyLits (Tryz.prog.types.size - 1 + 1) 3 [.int .i64 d] = some [.int .i64 d] := by
    rw [Program.keyLits.eq_def]; simp only [Tryz.underlying3, h1, and_self, if_true]
  have e2 : Tryz.prog.keyLits (Tryz.prog.types.size - 1 + 1) 9 [.string n] = some [.string n.data.toList] := by
    rw [Program.keyLits.eq_def]; simp only [Tryz.underlying9, h2, if_true]
  simp only [Value.cells, List.mapM_cons, List.mapM_nil, c3, c2, List.drop_succ_cons, List.drop_zero, List.take_succ_cons, List.take_zero, e1, e2, Option.bind_eq_bind, Option.pure_def]
  rfl
theorem keyedK : Keyed Tryz.prog 235 := Keyed.of_law (deep_law_gate (by kernel_rfl) (of_decide_eq_true (by kernel_rfl)) (of_decide_eq_true (by kernel_rfl)) (by kernel_rfl) (by kernel_rfl))
end Go.Proofs.YtpincjkjoeopkaaGreatDoor
