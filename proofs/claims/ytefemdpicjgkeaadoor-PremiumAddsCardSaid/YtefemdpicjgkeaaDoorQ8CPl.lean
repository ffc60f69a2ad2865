/- Sums of premiums, in plain words. -/
import Derived.Test.YtefemdpicjgkeaaDoorQ8Mrk
set_option linter.unusedSimpArgs false
set_option linter.unusedVariables false
set_option linter.unusedSectionVars false
namespace Go.Proofs.YtefemdpicjgkeaaDoor
open Go Go.Abs
set_option linter.unusedSimpArgs false
set_option linter.unusedVariables false

/-- the minutes of two parts are those of the whole -/
theorem cntP_add (z : Zn) (h : List Hol) (ws : List Win) (fr : Int) (j a : Nat) : ∀ b : Nat, cntP z h ws fr j (a + b) = cntP z h ws fr j a + cntP z h ws (fr + a) j b
  | 0 => by simp [cntP]
  | b + 1 => by
    rw [← Nat.add_assoc, cntP, cntP_add z h ws fr j a b, cntP]
    rw [show fr + ((a + b : Nat) : Int) = fr + (a : Int) + (b : Int) by omega]; omega
theorem dayL_ext {z : Zn} {h : List Hol} {ws : List Win} {ps qs : List Pc} {d : Int} (he : ∀ j, totP z h ws ps d j = totP z h ws qs d j) : ∀ n, dayL z h ws ps d n = dayL z h ws qs d n
  | 0 => rfl
  | n + 1 => by
    have : mn z h ws ps d n = mn z h ws qs d n := by unfold mn; rw [he]
    rw [dayL, dayL, dayL_ext he n, this]
theorem markL_cut {z : Zn} {h : List Hol} {ws : List Win} {d f c t : Int} {b : ByteArray} (h1 : f ≤ c) (h2 : c ≤ t) : markL z h ws [⟨d, f, c, b⟩, ⟨d, c, t, b⟩] = markL z h ws [⟨d, f, t, b⟩] := by
  unfold markL
  have e1 : daysK [⟨d, f, c, b⟩, ⟨d, c, t, b⟩] = [d] := by simp [daysK, addK]
  have e2 : daysK [⟨d, f, t, b⟩] = [d] := by simp [daysK, addK]
  rw [e1, e2]
  have : srt [d] = [d] := by simp [srt]
  rw [this, List.flatMap_cons, List.flatMap_cons, List.flatMap_nil, List.flatMap_nil]
  refine congrArg (· ++ []) (dayL_ext (fun j => ?_) _)
  unfold totP pcN
  simp only [List.map_cons, List.map_nil, List.sum_cons, List.sum_nil, if_true]
  have := cntP_add z h ws f j (c - f).toNat (t - c).toNat
  rw [show (c - f).toNat + (t - c).toNat = (t - f).toNat by omega, show f + ((c - f).toNat : Int) = c by omega] at this
  rw [this]; omega
/-- a window that covers nothing changes nothing -/
theorem gw_app {ws : List Win} {w : Win} {i : Nat} (h : i < ws.length) : gw (ws ++ [w]) i = gw ws i := by
  unfold gw; rw [List.getElem?_append_left h]
theorem gw_last (ws : List Win) (w : Win) : gw (ws ++ [w]) ws.length = w := by simp [gw]
theorem numOf_ext {f g : Nat → Bool} : ∀ {n : Nat}, (∀ j, j < n → f j = g j) → numOf f n = numOf g n
  | 0, _ => rfl
  | n + 1, h => by rw [numOf, numOf, numOf_ext (n := n) (fun j hj => h j (by omega)), h n (by omega)]
theorem covN_app {z : Zn} {h : List Hol} {ws : List Win} {w : Win} {t : Int} (hw : covT z h w t = false) : covN z h (ws ++ [w]) t (ws.length + 1) = covN z h ws t ws.length := by
  unfold covN
  rw [numOf, gw_last, hw]
  simp only [Bool.false_eq_true, if_false]
  exact numOf_ext fun j hj => by rw [gw_app hj]
theorem wonB_app {ws : List Win} {w : Win} {c : Nat → Bool} {i : Nat} (hi : i < ws.length) (hc : c ws.length = false) : wonB (ws ++ [w]) c i = wonB ws c i := by
  unfold wonB
  rw [gw_app hi, List.length_append, List.length_singleton, List.range_succ, List.all_append]
  simp only [List.all_cons, List.all_nil, hc, Bool.false_and, Bool.not_false, Bool.and_true]
  congr 2
  rw [Bool.eq_iff_iff, List.all_eq_true, List.all_eq_true]
  constructor <;> intro h k hk <;> have := h k hk <;> rw [List.mem_range] at hk
  · unfold beats at *; rw [gw_app hi, gw_app hk] at this; exact this
  · unfold beats at *; rw [gw_app hi, gw_app hk]; exact this
theorem wonN_app {ws : List Win} {w : Win} {N : Nat} (hN : N.testBit ws.length = false) : wonN (ws ++ [w]) N = wonN ws N := by
  unfold wonN
  rw [List.length_append, List.length_singleton, numOf]
  have : wonB (ws ++ [w]) N.testBit ws.length = false := by unfold wonB; rw [hN]; rfl
  rw [this]
  simp only [Bool.false_eq_true, if_false]
  exact numOf_ext fun j hj => wonB_app hj hN
theorem wonT_app {z : Zn} {h : List Hol} {ws : List Win} {w : Win} {t : Int} (hw : covT z h w t = false) (j : Nat) : wonT z h (ws ++ [w]) t j = wonT z h ws t j := by
  unfold wonT
  rw [List.length_append, List.length_singleton, covN_app hw]
  rw [wonN_app]
  unfold covN
  rw [numOf_bit]; simp
theorem cntP_app {z : Zn} {h : List Hol} {ws : List Win} {w : Win} (hw : ∀ t, covT z h w t = false) (fr : Int) (j : Nat) : ∀ k, cntP z h (ws ++ [w]) fr j k = cntP z h ws fr j k
  | 0 => rfl
  | k + 1 => by rw [cntP, cntP, cntP_app hw fr j k, wonT_app (hw _)]
theorem totP_app {z : Zn} {h : List Hol} {ws : List Win} {w : Win} (hw : ∀ t, covT z h w t = false) (ps : List Pc) (d : Int) (j : Nat) : totP z h (ws ++ [w]) ps d j = totP z h ws ps d j := by
  unfold totP
  simp only [cntP_app hw]
theorem cntP_never {z : Zn} {h : List Hol} {ws : List Win} {fr : Int} {j : Nat} (hj : ws.length ≤ j) : ∀ k, cntP z h ws fr j k = 0
  | 0 => rfl
  | k + 1 => by
    rw [cntP, cntP_never hj k]
    have : wonT z h ws (fr + k) j = false := by
      unfold wonT wonN
      rw [numOf_bit]
      simp; omega
    rw [this]; rfl
theorem totP_never {z : Zn} {h : List Hol} {ws : List Win} {d : Int} {j : Nat} (hj : ws.length ≤ j) : ∀ ps : List Pc, totP z h ws ps d j = 0
  | [] => rfl
  | p :: ps => by
    have ih := totP_never (z := z) (h := h) (ws := ws) (d := d) hj ps
    unfold totP at *
    rw [List.map_cons, List.sum_cons, ih, cntP_never hj]; simp
theorem dayL_app {z : Zn} {h : List Hol} {ws : List Win} {w : Win} (hw : ∀ t, covT z h w t = false) {ps : List Pc} {d : Int} : ∀ {n : Nat}, n ≤ ws.length → dayL z h (ws ++ [w]) ps d n = dayL z h ws ps d n
  | 0, _ => rfl
  | n + 1, hn => by
    have : mn z h (ws ++ [w]) ps d n = mn z h ws ps d n := by
      unfold mn
      rw [totP_app hw, if_pos (by simp; omega), if_pos (by omega)]
    rw [dayL, dayL, dayL_app hw (n := n) (by omega), this, gw_app (by omega)]
theorem markL_app {z : Zn} {h : List Hol} {ws : List Win} {w : Win} (hw : ∀ t, covT z h w t = false) (ps : List Pc) : markL z h (ws ++ [w]) ps = markL z h ws ps := by
  unfold markL
  have : ∀ d, dayL z h (ws ++ [w]) ps d (ws ++ [w]).length = dayL z h ws ps d ws.length := fun d => by
    rw [List.length_append, List.length_singleton, dayL, dayL_app hw (Nat.le_refl _)]
    have : mn z h (ws ++ [w]) ps d ws.length = 0 := by
      unfold mn
      rw [totP_app hw, totP_never (Nat.le_refl _)]; simp
    rw [this]; simp
  simp only [this]

end Go.Proofs.YtefemdpicjgkeaaDoor
