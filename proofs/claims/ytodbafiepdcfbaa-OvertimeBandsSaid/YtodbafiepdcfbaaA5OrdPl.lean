/- OvertimeOrderless: works cut into parts have the same minutes. -/
import Derived.Test.YtodbafiepdcfbaaA5ConPl
set_option linter.unusedSimpArgs false
set_option linter.unusedVariables false
set_option linter.unusedSectionVars false
namespace Go.Proofs.Ytodbafiepdcfbaa
open Go Go.Abs
set_option linter.unusedSimpArgs false
set_option linter.unusedVariables false

theorem mins_append (a b : List Spn) : mins (a ++ b) = mins a ++ mins b := by simp [mins]
theorem mins_perm {a b : List Spn} (h : a.Perm b) : (mins a).Perm (mins b) := h.flatMap_right _
theorem mins_one (s : Spn) : mins [s] = minsP s := by simp [mins]
theorem incr_eq {a b : List (Int × Int)} (ha : incr a) (hb : incr b) (h : a.Perm b) : a = b :=
  h.eq_of_pairwise (fun x y _ _ h1 h2 => by omega) ha hb

structure Cut (P : List Spn) (M : List Wk) : Prop where
  g : ∀ w ∈ M, wkG w
  dj : (flatS M).Pairwise disj
  sub : ∀ x ∈ flatS M, ∃ s ∈ P, s.fr ≤ x.fr ∧ x.to ≤ s.to
  pm : (mins (flatS M)).Perm (mins P)
  len : M.length ≤ 2 * P.length
theorem Cut.perm {P Q : List Spn} {M : List Wk} (h : P.Perm Q) (c : Cut P M) : Cut Q M :=
  ⟨c.g, c.dj, fun x hx => let ⟨s, hs, h1⟩ := c.sub x hx; ⟨s, h.mem_iff.1 hs, h1⟩, c.pm.trans (mins_perm h), by rw [← h.length_eq]; exact c.len⟩
theorem Cut.nil : Cut [] [] := ⟨by simp, by simp [flatS], by simp [flatS], by simp [flatS], by simp⟩
def okV (d fr to : Int) : Prop := 20000 ≤ d ∧ d ≤ 30000 ∧ 28800000 ≤ fr ∧ fr < to ∧ to ≤ fr + 480 ∧ to ≤ 40000000
theorem wkG_one {d fr to : Int} (h : okV d fr to) : wkG ⟨d, [⟨fr, to⟩]⟩ := by
  obtain ⟨h1, h2, h3, h4, h5, h6⟩ := h
  refine ⟨by simp, by simp, h1, h2, fun v hv => ?_⟩
  rw [List.mem_singleton] at hv; subst hv
  exact ⟨h3, h4, h5, h6⟩
theorem flatW_one {d fr to : Int} : flatW ⟨d, [⟨fr, to⟩]⟩ = [⟨d, fr, to⟩] := rfl
theorem Cut.one {P : List Spn} {M : List Wk} {d fr to : Int} (c : Cut P M) (hv : okV d fr to) (hd : ∀ x ∈ P, disj x ⟨d, fr, to⟩) : Cut (⟨d, fr, to⟩ :: P) (M ++ [⟨d, [⟨fr, to⟩]⟩]) := by
  refine ⟨?_, ?_, ?_, ?_, ?_⟩
  · intro w hw
    rcases List.mem_append.1 hw with hw | hw
    · exact c.g w hw
    · rw [List.mem_singleton] at hw; subst hw; exact wkG_one hv
  · rw [flatS_snoc, flatW_one, List.pairwise_append]
    refine ⟨c.dj, by simp, fun a ha b hb => ?_⟩
    rw [List.mem_singleton] at hb; subst hb
    obtain ⟨s, hs, h1, h2⟩ := c.sub a ha
    have := hd s hs
    unfold disj at *
    simp only at *
    omega
  · rw [flatS_snoc, flatW_one]
    intro x hx
    rcases List.mem_append.1 hx with hx | hx
    · obtain ⟨s, hs, h1⟩ := c.sub x hx
      exact ⟨s, List.mem_cons_of_mem _ hs, h1⟩
    · rw [List.mem_singleton] at hx; subst hx
      exact ⟨_, List.mem_cons_self, by simp only; omega, by simp only; omega⟩
  · rw [flatS_snoc, flatW_one, mins_append]
    refine List.perm_append_comm.trans ?_
    show (mins [_] ++ mins (flatS M)).Perm (mins ([_] ++ P))
    rw [mins_append]
    exact c.pm.append_left _
  · have := c.len
    simp only [List.length_append, List.length_cons, List.length_nil]
    omega
theorem Cut.two {P : List Spn} {M : List Wk} {d fr to k : Int} (c : Cut P M) (hv : okV d fr to) (h1 : fr < k) (h2 : k < to) (hd : ∀ x ∈ P, disj x ⟨d, fr, to⟩) : Cut (⟨d, fr, to⟩ :: P) (M ++ [⟨d, [⟨k, to⟩]⟩] ++ [⟨d, [⟨fr, k⟩]⟩]) := by
  have v1 : okV d k to := by unfold okV at *; omega
  have v2 : okV d fr k := by unfold okV at *; omega
  have a := c.one v1 fun x hx => by have := hd x hx; unfold disj at *; simp only at *; omega
  have b := a.one v2 fun x hx => by
    rcases List.mem_cons.1 hx with rfl | hx
    · unfold disj; simp only; omega
    · have := hd x hx; unfold disj at *; simp only at *; omega
  refine ⟨b.g, b.dj, ?_, ?_, ?_⟩
  · intro x hx
    obtain ⟨s, hs, h3⟩ := b.sub x hx
    rcases List.mem_cons.1 hs with rfl | hs
    · exact ⟨_, List.mem_cons_self, by simp only at *; omega, by simp only at *; omega⟩
    rcases List.mem_cons.1 hs with rfl | hs
    · exact ⟨_, List.mem_cons_self, by simp only at *; omega, by simp only at *; omega⟩
    · exact ⟨s, List.mem_cons_of_mem _ hs, h3⟩
  · refine b.pm.trans ?_
    show (mins ([⟨d, fr, k⟩] ++ ([⟨d, k, to⟩] ++ P))).Perm (mins ([⟨d, fr, to⟩] ++ P))
    have e : mins [⟨d, fr, to⟩] = mins [⟨d, fr, k⟩] ++ mins [⟨d, k, to⟩] := by
      rw [mins_one, mins_one, mins_one]
      unfold minsP
      simp only
      rw [show (to - fr).toNat = (k - fr).toNat + (to - k).toNat from by omega, minsF_add, show fr + (((k - fr).toNat : Nat) : Int) = k from by omega]
    rw [mins_append, mins_append, mins_append, e, List.append_assoc]
  · have := c.len
    simp only [List.length_append, List.length_cons, List.length_nil]
    omega
theorem flatS_len2 : ∀ {ws : List Wk}, (∀ w ∈ ws, wkG w) → (flatS ws).length ≤ 2 * ws.length
  | [], _ => by simp [flatS]
  | w :: ws, h => by
    have h1 := flatS_len2 fun x hx => h x (List.mem_cons_of_mem _ hx)
    have h2 := (h w List.mem_cons_self).2.1
    have h4 : flatS (w :: ws) = flatW w ++ flatS ws := rfl
    rw [h4, List.length_append, flatW_length, List.length_cons]
    omega

end Go.Proofs.Ytodbafiepdcfbaa
