/- InboxCancels: what one more event with the greatest key changes. -/
import Derived.Test.YtodbafiepdcfbaaA5Gd
set_option linter.unusedSimpArgs false
set_option linter.unusedVariables false
set_option linter.unusedSectionVars false
namespace Go.Proofs.Ytodbafiepdcfbaa
open Go Go.Abs
set_option linter.unusedSimpArgs false
set_option linter.unusedVariables false

theorem uni_top {l : List Ev} {k : Ev} (h : ∀ x ∈ l, x.kt < k.kt) : uni (l ++ [k]) = uni l ++ [k] := by
  refine strict_ext (strict_uni _) ?_ fun e => ?_
  · unfold strictE
    rw [List.pairwise_append]
    refine ⟨strict_uni l, by simp, fun a ha b hb => ?_⟩
    rw [List.mem_singleton] at hb; subst hb
    exact .inl (h a ((mem_uni l a).1 ha))
  · rw [mem_uni, List.mem_append, List.mem_append, mem_uni]
theorem fk_top {U : List Ev} {k : Ev} (h : ∀ x ∈ U, x.kt < k.kt) : fk (U ++ [k]) = fk U ++ [k] := by
  rw [fk_snoc]
  cases hl : U.getLast? with
  | none => simp
  | some z =>
    have := h z (List.mem_of_getLast? hl)
    rw [if_neg]
    simp only [Option.map_some, Option.some.injEq]
    intro e
    have : z.kt = k.kt := congrArg Ky.t e
    omega
theorem effF_top {l : List Ev} {k : Ev} {n : Int} (h : ∀ x ∈ l, x.kt < k.kt) : effF (l ++ [k]) n = if k.emp = n then effF l n ++ [k] else effF l n := by
  unfold effF
  rw [uni_top h, fk_top (fun x hx => h x ((mem_uni l x).1 hx)), forE_snoc]
theorem st_cancel {F : List Ev} {k : Ev} (hk : k.kind = 5) (e : Ev) : stOf (F ++ [k]) e = if e.key = k.tg then none else stOf F e := by
  unfold stOf
  rw [canc_snoc, corr_snoc, if_neg (fun h : k.kind = 6 ∧ k.tg = e.key => by omega)]
  by_cases h : e.key = k.tg
  · simp [h, hk]
  · have h2 : ¬ k.tg = e.key := fun e' => h e'.symm
    simp [h, h2]
theorem st_correct {F : List Ev} {k : Ev} (hk : k.kind = 6) (e : Ev) : stOf (F ++ [k]) e = (stOf F e).map fun s => if s.key = k.tg then { s with time := k.time } else s := by
  unfold stOf
  rw [canc_snoc, corr_snoc]
  have h5 : decide (k.kind = 5 ∧ k.tg = e.key) = false := decide_eq_false fun h => by omega
  rw [h5, Bool.or_false]
  split
  · rfl
  · by_cases h : k.tg = e.key
    · simp [hk, h, Stamp.key, Ev.key]
    · have h2 : ¬ e.key = k.tg := fun e' => h e'.symm
      have h3 : ¬ (⟨e.kt, e.ks⟩ : Ky) = k.tg := h2
      simp [hk, h, Stamp.key, h3]
theorem stamps_cancel {F : List Ev} {k : Ev} (hk : k.kind = 5) : stamps (F ++ [k]) = (stamps F).filter fun s => decide (s.key ≠ k.tg) := by
  unfold stamps
  have h0 : stOf (F ++ [k]) k = none := by unfold stOf; rw [if_pos (.inl hk)]
  rw [List.filterMap_append]
  have h1 : [k].filterMap (stOf (F ++ [k])) = [] := by simp [h0]
  rw [h1, List.append_nil]
  have : ∀ G : List Ev, G.filterMap (stOf (F ++ [k])) = (G.filterMap (stOf F)).filter fun s => decide (s.key ≠ k.tg) := by
    intro G
    induction G with
    | nil => rfl
    | cons e G ih =>
      rw [List.filterMap_cons, List.filterMap_cons, st_cancel hk]
      cases hs : stOf F e with
      | none => simp [ih]
      | some s =>
        have hkey := (stOf_key hs).1
        by_cases h : e.key = k.tg
        · have h2 : s.key = k.tg := by rw [hkey, h]
          simp [h, h2, ih]
        · have h2 : ¬ s.key = k.tg := by rw [hkey]; exact h
          simp [h, h2, ih]
  exact this F
theorem stamps_correct {F : List Ev} {k : Ev} (hk : k.kind = 6) : stamps (F ++ [k]) = (stamps F).map fun s => if s.key = k.tg then { s with time := k.time } else s := by
  unfold stamps
  have h0 : stOf (F ++ [k]) k = none := by unfold stOf; rw [if_pos (.inr (.inl hk))]
  rw [List.filterMap_append]
  have h1 : [k].filterMap (stOf (F ++ [k])) = [] := by simp [h0]
  rw [h1, List.append_nil]
  have : ∀ G : List Ev, G.filterMap (stOf (F ++ [k])) = (G.filterMap (stOf F)).map fun s => if s.key = k.tg then { s with time := k.time } else s := by
    intro G
    induction G with
    | nil => rfl
    | cons e G ih =>
      rw [List.filterMap_cons, List.filterMap_cons, st_correct hk]
      cases hs : stOf F e with
      | none => simp [ih]
      | some s => simp [ih]
  exact this F
theorem filter_len {S : List Stamp} {x : Stamp} (h : S.Pairwise fun a b => a.key ≠ b.key) (hx : x ∈ S) : (S.filter fun s => decide (s.key ≠ x.key)).length + 1 = S.length := by
  induction S with
  | nil => simp at hx
  | cons s S ih =>
    rw [List.pairwise_cons] at h
    rcases List.mem_cons.1 hx with rfl | hx
    · have : (S.filter fun s => decide (s.key ≠ x.key)) = S := List.filter_eq_self.2 fun y hy => decide_eq_true fun e => h.1 y hy e.symm
      rw [List.filter_cons_of_neg (by simp), this, List.length_cons]
    · have := ih h.2 hx
      have h2 : s.key ≠ x.key := h.1 x hx
      simp [h2]
      simpa using this
theorem stamps_time {F : List Ev} (h : ∀ e ∈ F, 1000 ≤ e.time) : ∀ s ∈ stamps F, 1000 ≤ s.time := by
  intro s hs
  obtain ⟨e, he, h1⟩ := List.mem_filterMap.1 hs
  unfold stOf at h1
  split at h1
  · simp at h1
  · simp only [Option.some.injEq] at h1
    subst h1
    have : ∀ G : List Ev, (∀ e ∈ G, 1000 ≤ e.time) → ∀ t, corr G e.key = some t → 1000 ≤ t := by
      intro G
      induction G using snoc_ind with
      | h0 => intro _ t ht; simp [corr] at ht
      | h1 G y ih =>
        intro hG t ht
        rw [corr_snoc] at ht
        split at ht
        · simp only [Option.some.injEq] at ht
          have := hG y (by simp)
          omega
        · exact ih (fun x hx => hG x (by simp [hx])) t ht
    cases hc : corr F e.key with
    | none => simpa using h e he
    | some t => simpa using this F h t hc

end Go.Proofs.Ytodbafiepdcfbaa
