/- From what an argument reads as to what it is as a value that never changes. -/
import Derived.Test.YtjacobmkfkmdiaaAbs33
set_option linter.unusedSimpArgs false
set_option linter.unusedVariables false
set_option linter.unusedSectionVars false
namespace Go.Abs
open Go.WideShapes

/-- a value of a plain type -/
def GotV (P : Program) (m : Nat) (t : TypeId) (a : AVal) : Prop := ∃ as, Got P m t as ∧ match P.underlying t with
  | some (.struct _) => a = .agg as
  | _ => as = [a]

theorem gotV_of {H : Type} {enc : TypeId × Value → H} {P : Program} {w : World} {base : Nat} {spare : Nat → Bool} {held : Bool} {r : Reach} {b0 : Nat} {t : TypeId} {v : Value} {d : DataW H} {p : List MemPlace} (m : Nat)
    (hs : suppB P m t = true) (hv : Value.okWide P w r b0 t v) (h : DataW.Trod enc P w base spare held t v d p) : ∃ a, Rep (ctx0 w) a v ∧ GotV P m t a := by
  obtain ⟨fuel, hf⟩ := h
  obtain ⟨as, h1, h2, _⟩ := got_of m t fuel _ _ hs hf
  have h1' := RepL.unp as _ h1
  cases m with
  | zero => simp [suppB] at hs
  | succ m =>
    by_cases hst : ∃ fs, P.underlying t = some (.struct fs)
    · obtain ⟨fs, hu⟩ := hst
      obtain ⟨cs, rfl, _⟩ := okWide_struct hu hv
      refine ⟨.agg as, by rw [Rep]; exact ⟨cs, _root_.id rfl, h1'⟩, as, h2, ?_⟩
      rw [hu]
    · have key : ∃ a, as = [a] := by
        have hg := h2
        unfold Got at hg
        split at hg
        · obtain ⟨b, rfl⟩ := hg; exact ⟨_, _root_.id rfl⟩
        · obtain ⟨n, rfl, _⟩ := hg; exact ⟨_, _root_.id rfl⟩
        · obtain ⟨s, rfl, _⟩ := hg; exact ⟨_, _root_.id rfl⟩
        · obtain ⟨vals, rfl, _⟩ := hg; exact ⟨_, _root_.id rfl⟩
        · rename_i fs hu; exact (hst ⟨fs, hu⟩).elim
        · exact hg.elim
      obtain ⟨a, rfl⟩ := key
      have hv1 : v.cells.toList = [v] := by
        have hg := h2
        unfold Got at hg
        split at hg
        · rename_i hu
          simp only [Value.okWide, hu, Cell.okWide] at hv
          cases v <;> simp_all [Cell.ok] <;> rfl
        · rename_i k hu
          obtain ⟨n, rfl⟩ := okWide_int hu hv; rfl
        · rename_i hu
          obtain ⟨s, rfl⟩ := okWide_string hu hv; rfl
        · rename_i e hu
          obtain ⟨a, len, cap, rfl⟩ := okWide_slice hu hv; rfl
        · rename_i fs hu; exact (hst ⟨fs, hu⟩).elim
        · exact hg.elim
      rw [hv1] at h1'
      rw [RepL] at h1'
      obtain ⟨u, rest, he, h3, _⟩ := h1'
      simp at he
      obtain ⟨rfl, _⟩ := he
      refine ⟨a, h3, [a], h2, ?_⟩
      split
      · rename_i fs hu; exact (hst ⟨fs, hu⟩).elim
      · rfl

theorem gotV_int {P : Program} {m : Nat} {t : TypeId} {a : AVal} {k : IntKind} (hu : P.underlying t = some (.int k)) (h : GotV P (m + 1) t a) : ∃ n, a = .int k n ∧ k.min ≤ n ∧ n ≤ k.max := by
  obtain ⟨as, h1, h2⟩ := h
  rw [Got, hu] at h1
  rw [hu] at h2
  obtain ⟨n, rfl, h3⟩ := h1
  simp at h2
  exact ⟨n, h2.symm, h3⟩
theorem gotV_str {P : Program} {m : Nat} {t : TypeId} {a : AVal} (hu : P.underlying t = some .string) (h : GotV P (m + 1) t a) : ∃ s, a = .str s ∧ s.size ≤ maxLen := by
  obtain ⟨as, h1, h2⟩ := h
  rw [Got, hu] at h1
  rw [hu] at h2
  obtain ⟨n, rfl, h3⟩ := h1
  simp at h2
  exact ⟨n, h2.symm, h3⟩
theorem got_int {P : Program} {m : Nat} {t : TypeId} {as : List AVal} {k : IntKind} (hu : P.underlying t = some (.int k)) (h : Got P (m + 1) t as) : ∃ n, as = [.int k n] ∧ k.min ≤ n ∧ n ≤ k.max := by
  rw [Got, hu] at h
  exact h
theorem got_str {P : Program} {m : Nat} {t : TypeId} {as : List AVal} (hu : P.underlying t = some .string) (h : Got P (m + 1) t as) : ∃ s, as = [.str s] ∧ s.size ≤ maxLen := by
  rw [Got, hu] at h
  exact h
/-- a struct by value -/
theorem gotV_struct {P : Program} {m : Nat} {t : TypeId} {a : AVal} {fs : Array Field} (hu : P.underlying t = some (.struct fs)) (h : GotV P (m + 1) t a) :
    ∃ as, a = .agg as ∧ as.length = P.cellsOf t ∧ ∀ f ∈ fs.toList, Got P m f.type ((as.drop f.offset).take (P.cellsOf f.type)) := by
  obtain ⟨as, h1, h2⟩ := h
  rw [Got, hu] at h1
  rw [hu] at h2
  exact ⟨as, h2, h1.1, h1.2⟩
theorem got_struct {P : Program} {m : Nat} {t : TypeId} {as : List AVal} {fs : Array Field} (hu : P.underlying t = some (.struct fs)) (h : Got P (m + 1) t as) :
    as.length = P.cellsOf t ∧ ∀ f ∈ fs.toList, Got P m f.type ((as.drop f.offset).take (P.cellsOf f.type)) := by
  rw [Got, hu] at h
  exact h
theorem got_slice {P : Program} {m : Nat} {t e : TypeId} {as : List AVal} (hu : P.underlying t = some (.slice e)) (h : Got P (m + 1) t as) :
    ∃ vals, as = [.pure (P.cellsOf e) vals] ∧ vals.length ≤ maxLen ∧ ∀ v ∈ vals, v.length = P.cellsOf e ∧ Got P m e v := by
  rw [Got, hu] at h
  exact h
theorem gotV_slice {P : Program} {m : Nat} {t e : TypeId} {a : AVal} (hu : P.underlying t = some (.slice e)) (h : GotV P (m + 1) t a) :
    ∃ vals, a = .pure (P.cellsOf e) vals ∧ vals.length ≤ maxLen ∧ ∀ v ∈ vals, v.length = P.cellsOf e ∧ Got P m e v := by
  obtain ⟨as, h1, h2⟩ := h
  obtain ⟨vals, rfl, h3⟩ := got_slice hu h1
  rw [hu] at h2
  simp at h2
  exact ⟨vals, h2.symm, h3⟩
/-- elements, one by one -/
theorem list_of {α β : Type} {f : β → α} {Q : β → Prop} : ∀ (l : List α), (∀ x ∈ l, ∃ y, x = f y ∧ Q y) → ∃ ys : List β, l = ys.map f ∧ ∀ y ∈ ys, Q y
  | [], _ => ⟨[], _root_.id rfl, by simp⟩
  | x :: l, h => by
    obtain ⟨y, hy, hq⟩ := h x (by simp)
    obtain ⟨ys, h1, h2⟩ := list_of l fun z hz => h z (by simp [hz])
    refine ⟨y :: ys, by rw [hy, h1]; rfl, fun z hz => ?_⟩
    rcases List.mem_cons.1 hz with rfl | hz
    · exact hq
    · exact h2 z hz
theorem gotV_ints {P : Program} {m : Nat} {t e : TypeId} {a : AVal} {k : IntKind} (hu : P.underlying t = some (.slice e)) (he : P.underlying e = some (.int k)) (hc : P.cellsOf e = 1) (h : GotV P (m + 2) t a) :
    ∃ l, a = .pure 1 (numsE k l) ∧ l.length ≤ maxLen ∧ ∀ n ∈ l, k.min ≤ n ∧ n ≤ k.max := by
  obtain ⟨vals, rfl, h1, h2⟩ := gotV_slice hu h
  obtain ⟨l, rfl, h3⟩ := list_of (f := fun n : Int => [AVal.int k n]) vals fun v hv => got_int he (h2 v hv).2
  exact ⟨l, by rw [hc]; rfl, by simpa using h1, h3⟩
theorem gotV_tape {P : Program} {m : Nat} {t e : TypeId} {a : AVal} (hu : P.underlying t = some (.slice e)) (he : P.underlying e = some (.int .i64)) (hc : P.cellsOf e = 1) (h : GotV P (m + 2) t a) :
    ∃ l, a = .pure 1 (numsE .i64 l) ∧ TapeOk l := by
  obtain ⟨l, rfl, h1, h2⟩ := gotV_ints hu he hc h
  exact ⟨l, _root_.id rfl, tape_of (_root_.id rfl) h1 h2⟩
theorem gotV_bytes {P : Program} {m : Nat} {t e : TypeId} {a : AVal} (hu : P.underlying t = some (.slice e)) (he : P.underlying e = some (.int .u8)) (hc : P.cellsOf e = 1) (h : GotV P (m + 2) t a) :
    ∃ l : List UInt8, a = .pure 1 (els l) ∧ l.length ≤ maxLen := by
  obtain ⟨l, rfl, h1, h2⟩ := gotV_ints hu he hc h
  exact ⟨_, by rw [bytes_of h2], by simpa using h1⟩
theorem gotV_els {P : Program} {m : Nat} {t e : TypeId} {a : AVal} {α : Type} [Cel α] {Q : α → Prop} (hu : P.underlying t = some (.slice e)) (hd : ∀ as, Got P m e as → ∃ x : α, as = Cel.c x ∧ Q x) (hc : P.cellsOf e = Cel.sz α) (h : GotV P (m + 1) t a) :
    ∃ l : List α, a = .pure (Cel.sz α) (els l) ∧ l.length ≤ maxLen ∧ ∀ x ∈ l, Q x := by
  obtain ⟨vals, rfl, h1, h2⟩ := gotV_slice hu h
  obtain ⟨l, rfl, h3⟩ := list_of (f := fun x : α => Cel.c x) vals fun v hv => hd v (h2 v hv).2
  exact ⟨l, by rw [hc]; rfl, by simpa using h1, h3⟩

/-- lists of known lengths -/
theorem list2 {α : Type} {l : List α} (h : l.length = 2) : ∃ a b, l = [a, b] := by
  match l, h with
  | [a, b], _ => exact ⟨a, b, _root_.id rfl⟩
theorem list_cons {α : Type} {l : List α} {n : Nat} (h : l.length = n + 1) : ∃ a l', l = a :: l' ∧ l'.length = n := by
  cases l with
  | nil => simp at h
  | cons a l' => exact ⟨a, l', _root_.id rfl, by simpa using h⟩
theorem list_nil {α : Type} {l : List α} (h : l.length = 0) : l = [] := List.eq_nil_of_length_eq_zero h

end Go.Abs
