/- Lists without repetition; the ordered union. -/
import Derived.Test.YtodbafiepdcfbaaA5Ev
set_option linter.unusedSimpArgs false
set_option linter.unusedVariables false
set_option linter.unusedSectionVars false
namespace Go.Proofs.Ytodbafiepdcfbaa
open Go Go.Abs
set_option linter.unusedSimpArgs false
set_option linter.unusedVariables false

deriving instance DecidableEq for Ev
deriving instance DecidableEq for Ky
deriving instance DecidableEq for Stamp

def ddS {α : Type} [DecidableEq α] (acc : List α) (x : α) : List α := if acc.getLast? = some x then acc else acc ++ [x]
/-- equal neighbours once -/
def dd {α : Type} [DecidableEq α] (l : List α) : List α := l.foldl ddS []
theorem dd_snoc {α : Type} [DecidableEq α] (l : List α) (x : α) : dd (l ++ [x]) = ddS (dd l) x := by simp [dd]
theorem snoc_ind {α : Type} {P : List α → Prop} (h0 : P []) (h1 : ∀ l x, P l → P (l ++ [x])) (l : List α) : P l := by
  rw [← List.reverse_reverse l]
  induction l.reverse with
  | nil => exact h0
  | cons x l ih => rw [List.reverse_cons]; exact h1 _ _ ih
theorem dd_last {α : Type} [DecidableEq α] (l : List α) : (dd l).getLast? = l.getLast? := by
  induction l using snoc_ind with
  | h0 => rfl
  | h1 l x ih =>
    rw [dd_snoc]
    unfold ddS
    split
    · next h => rw [h]; simp
    · simp
theorem dd_take {α : Type} [DecidableEq α] {l : List α} {q : Nat} (h0 : 0 < q) (h : q < l.length) : dd (l.take (q + 1)) = if l[q] = l[q - 1] then dd (l.take q) else dd (l.take q) ++ [l[q]] := by
  rw [List.take_succ_eq_append_getElem h, dd_snoc]
  unfold ddS
  rw [dd_last]
  have : (l.take q).getLast? = some l[q - 1] := by
    rw [List.getLast?_eq_getElem?, List.length_take, show min q l.length - 1 = q - 1 from by omega, List.getElem?_take, if_pos (by omega), List.getElem?_eq_getElem (by omega)]
  rw [this]
  by_cases h2 : l[q] = l[q - 1]
  · rw [if_pos h2, if_pos (by rw [h2])]
  · rw [if_neg h2, if_neg (fun h => h2 (by simpa using h.symm))]
theorem dd_le {α : Type} [DecidableEq α] (l : List α) : (dd l).length ≤ l.length := by
  induction l using snoc_ind with
  | h0 => simp [dd]
  | h1 l x ih =>
    rw [dd_snoc]
    unfold ddS
    split <;> simp <;> omega
theorem mem_dd {α : Type} [DecidableEq α] (l : List α) (a : α) : a ∈ dd l ↔ a ∈ l := by
  induction l using snoc_ind with
  | h0 => simp [dd]
  | h1 l x ih =>
    rw [dd_snoc]
    unfold ddS
    split
    · next h =>
      rw [ih, List.mem_append, List.mem_singleton]
      rw [dd_last] at h
      have := List.mem_of_getLast? h
      constructor
      · exact .inl
      · rintro (h | rfl)
        · exact h
        · exact this
    · rw [List.mem_append, List.mem_append, ih]
theorem dd_same {α : Type} [DecidableEq α] {l : List α} : ∀ q, q ≤ l.length → (∀ i (h : i < l.length), 0 < i → i < q → l[i] ≠ l[i - 1]) → dd (l.take q) = l.take q
  | 0, _, _ => by simp [dd]
  | 1, h, _ => by
    cases l with
    | nil => simp [dd]
    | cons x l => simp [dd, ddS]
  | q + 2, h, hd => by
    have ih := dd_same (l := l) (q + 1) (by omega) fun i h1 h2 h3 => hd i h1 h2 (by omega)
    rw [dd_take (by omega) (by omega), if_neg (hd (q + 1) (by omega) (by omega) (by omega)), ih, ← List.take_succ_eq_append_getElem (by omega)]

theorem eLt_irrefl (a : Ev) : ¬ eLt a a := by unfold eLt; omega
theorem eLt_trans {a b c : Ev} : eLt a b → eLt b c → eLt a c := by unfold eLt; omega
theorem eLt_asymm {a b : Ev} : eLt a b → ¬ eLt b a := by unfold eLt; omega
theorem eLt_total {a b : Ev} (h1 : ¬ eLt a b) (h2 : ¬ eLt b a) : a = b := by
  unfold eLt at *
  exact Ev.ext' (by omega) (by omega) (by omega) (by omega) (by omega) (by omega) (by omega)
def strictE (l : List Ev) : Prop := l.Pairwise eLt
theorem strict_ext {a b : List Ev} (ha : strictE a) (hb : strictE b) (h : ∀ e, e ∈ a ↔ e ∈ b) : a = b := by
  have na : a.Nodup := List.Pairwise.imp (S := fun x y => x ≠ y) (fun {x y} h (e : x = y) => eLt_irrefl x (by subst e; exact h)) ha
  have nb : b.Nodup := List.Pairwise.imp (S := fun x y => x ≠ y) (fun {x y} h (e : x = y) => eLt_irrefl x (by subst e; exact h)) hb
  exact ((List.perm_ext_iff_of_nodup na nb).2 h).eq_of_pairwise (fun x y _ _ h1 h2 => (eLt_asymm h1 h2).elim) ha hb
theorem dd_strict {l : List Ev} (h : l.Pairwise fun x y => ¬ eLt y x) : strictE (dd l) := by
  induction l using snoc_ind with
  | h0 => simp [dd, strictE]
  | h1 l x ih =>
    rw [List.pairwise_append] at h
    have ih := ih h.1
    rw [dd_snoc]
    unfold ddS
    split
    · exact ih
    · next hne =>
      unfold strictE at *
      rw [List.pairwise_append]
      refine ⟨ih, by simp, fun a ha b hb => ?_⟩
      rw [List.mem_singleton] at hb; subst hb
      have h1 := h.2.2 a ((mem_dd l a).1 ha) b (by simp)
      apply Classical.byContradiction
      intro h2
      have e := eLt_total h2 h1
      subst e
      -- a is in dd l, so the last of dd l is not before it
      apply hne
      cases hl : (dd l).getLast? with
      | none => rw [List.getLast?_eq_none_iff] at hl; rw [hl] at ha; simp at ha
      | some z =>
        congr 1
        obtain ⟨ys, hys⟩ := List.getLast?_eq_some_iff.1 hl
        rw [hys, List.mem_append, List.mem_singleton] at ha
        rcases ha with ha | rfl
        · rw [hys, List.pairwise_append] at ih
          have h3 := ih.2.2 a ha z (by simp)
          have h4 := h.2.2 z ((mem_dd l z).1 (by rw [hys]; simp)) a (by simp)
          exact (h4 h3).elim
        · rfl
instance (a b : Ev) : Decidable (eLt a b) := by unfold eLt; infer_instance
/-- the events in ascending order, each once -/
def insE (e : Ev) : List Ev → List Ev
  | [] => [e]
  | x :: xs => if eLt e x then e :: x :: xs else if e = x then x :: xs else x :: insE e xs
def uni (l : List Ev) : List Ev := l.foldl (fun acc e => insE e acc) []
theorem mem_insE (e a : Ev) : ∀ l, a ∈ insE e l ↔ a = e ∨ a ∈ l
  | [] => by simp [insE]
  | x :: xs => by
    have ih := mem_insE e a xs
    unfold insE
    split
    · simp
    · split
      · next h => subst h; simp
      · simp only [List.mem_cons, ih]
        constructor
        · rintro (h | h | h)
          · exact .inr (.inl h)
          · exact .inl h
          · exact .inr (.inr h)
        · rintro (h | h | h)
          · exact .inr (.inl h)
          · exact .inl h
          · exact .inr (.inr h)
theorem strict_insE (e : Ev) : ∀ {l}, strictE l → strictE (insE e l)
  | [], _ => by simp [insE, strictE]
  | x :: xs, h => by
    unfold strictE at *
    rw [List.pairwise_cons] at h
    have ih := strict_insE e (l := xs) h.2
    unfold insE
    split
    · next hl =>
      rw [List.pairwise_cons, List.pairwise_cons]
      refine ⟨fun y hy => ?_, h⟩
      rcases List.mem_cons.1 hy with rfl | hy
      · exact hl
      · exact eLt_trans hl (h.1 y hy)
    · next hl =>
      split
      · rw [List.pairwise_cons]; exact h
      · next hne =>
        rw [List.pairwise_cons]
        refine ⟨fun y hy => ?_, ih⟩
        rcases (mem_insE e y xs).1 hy with rfl | hy
        · apply Classical.byContradiction
          intro h2
          exact hne (eLt_total hl h2)
        · exact h.1 y hy
theorem uni_snoc (l : List Ev) (e : Ev) : uni (l ++ [e]) = insE e (uni l) := by simp [uni]
theorem strict_uni (l : List Ev) : strictE (uni l) := by
  induction l using snoc_ind with
  | h0 => simp [uni, strictE]
  | h1 l x ih => rw [uni_snoc]; exact strict_insE x ih
theorem mem_uni (l : List Ev) (a : Ev) : a ∈ uni l ↔ a ∈ l := by
  induction l using snoc_ind with
  | h0 => simp [uni]
  | h1 l x ih =>
    rw [uni_snoc, mem_insE, ih, List.mem_append, List.mem_singleton]
    constructor
    · rintro (h | h)
      · exact .inr h
      · exact .inl h
    · rintro (h | h)
      · exact .inr h
      · exact .inl h
theorem uni_ext {a b : List Ev} (h : ∀ e, e ∈ a ↔ e ∈ b) : uni a = uni b :=
  strict_ext (strict_uni a) (strict_uni b) fun e => by rw [mem_uni, mem_uni, h]
theorem dd_uni {l l' : List Ev} (hp : l'.Perm l) (h : l'.Pairwise fun x y => ¬ eLt y x) : dd l' = uni l :=
  strict_ext (dd_strict h) (strict_uni l) fun e => by rw [mem_dd, mem_uni, hp.mem_iff]
theorem uni_le (l : List Ev) : (uni l).length ≤ l.length := by
  induction l using snoc_ind with
  | h0 => simp [uni]
  | h1 l x ih =>
    have : ∀ (e : Ev) (xs : List Ev), (insE e xs).length ≤ xs.length + 1 := by
      intro e xs
      induction xs with
      | nil => simp [insE]
      | cons y ys ih2 =>
        unfold insE
        split
        · simp
        · split
          · simp
          · simp; omega
    rw [uni_snoc]
    have := this x (uni l)
    simp
    omega
theorem uni_strict {l : List Ev} (h : strictE l) : uni l = l := strict_ext (strict_uni l) h (mem_uni l)

end Go.Proofs.Ytodbafiepdcfbaa
