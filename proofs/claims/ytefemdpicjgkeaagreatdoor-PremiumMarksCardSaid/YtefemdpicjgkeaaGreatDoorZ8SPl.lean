/- The examples of the chapter, in plain words. -/
import Derived.Test.YtefemdpicjgkeaaGreatDoorZ8Mrk
set_option linter.unusedSimpArgs false
set_option linter.unusedVariables false
set_option linter.unusedSectionVars false
namespace Go.Proofs.YtefemdpicjgkeaaGreatDoor
open Go Go.Abs
set_option linter.unusedSimpArgs false
set_option linter.unusedVariables false

def z0 : Zn := ⟨0, []⟩
def nightB : ByteArray := ⟨#[110, 105, 103, 104, 116]⟩
def lateB : ByteArray := ⟨#[108, 97, 116, 101]⟩
def nW (r : Int) : Win := ⟨nightB, nightB, r, 1320, 360, 127, 0⟩
def lW : Win := ⟨lateB, nightB, 2, 1320, 360, 127, 0⟩
theorem nameP_night : nameP nightB = true := by decide
theorem nameP_late : nameP lateB = true := by decide
theorem winP_nW {r : Int} (h0 : 0 ≤ r) (h1 : r ≤ 1000) : winP (nW r) = true := by
  have h2 : (0 ≤ r ∧ r ≤ 1000 ∧ (0 : Int) ≤ 1320 ∧ (1320 : Int) < 1440 ∧ (0 : Int) ≤ 360 ∧ (360 : Int) ≤ 1440 ∧ (0 : Int) ≤ 127 ∧ (127 : Int) ≤ 127 ∧ (0 : Int) ≤ 0 ∧ (0 : Int) ≤ 2) := by omega
  unfold winP nW
  simp only [nameP_night, Bool.or_true, Bool.true_and]
  exact decide_eq_true h2
theorem winP_lW : winP lW = true := by
  have h2 : ((0 : Int) ≤ 2 ∧ (2 : Int) ≤ 1000 ∧ (0 : Int) ≤ 1320 ∧ (1320 : Int) < 1440 ∧ (0 : Int) ≤ 360 ∧ (360 : Int) ≤ 1440 ∧ (0 : Int) ≤ 127 ∧ (127 : Int) ≤ 127 ∧ (0 : Int) ≤ 0 ∧ (0 : Int) ≤ 2) := by omega
  unfold winP lW
  simp only [nameP_night, nameP_late, Bool.or_true, Bool.true_and]
  exact decide_eq_true h2
theorem vZ_z0 : vZ z0 = 0 := by decide
theorem validP_nil : validP [] = 0 := by decide
theorem loc_z0 (t : Int) : loc z0 t = t := by unfold loc shZ z0 shF; simp
/-- a night window covers the minutes from 22:00 to 6:00 -/
theorem bit127 : ∀ k : Nat, k < 7 → Nat.testBit 127 k = true := by decide
theorem covT_night {w : Win} (h1 : w.fr = 1320) (h2 : w.to = 360) (h3 : w.wd = 127) (h4 : w.dy = 0) (t : Int) : covT z0 [] w t = (decide (1320 ≤ t % 1440) || decide (t % 1440 < 360)) := by
  unfold covT covP
  rw [loc_z0, h1, h2, h3, h4]
  have hb : bitP 127 ((t / 1440 + 3) % 7) = true := by
    unfold bitP
    exact bit127 _ (by omega)
  rw [hb]
  simp
theorem cntP_all {z : Zn} {h : List Hol} {ws : List Win} {fr : Int} {j : Nat} {b : Bool} : ∀ n : Nat, (∀ k : Nat, k < n → wonT z h ws (fr + k) j = b) → cntP z h ws fr j n = if b = true then (n : Int) else 0
  | 0, _ => by simp [cntP]
  | n + 1, hw => by
    rw [cntP, cntP_all n (fun k hk => hw k (by omega)), hw n (by omega)]
    cases b <;> simp
def pEx : Pc := ⟨3, 5640, 5800, ⟨#[120]⟩⟩
def wsEx : List Win := [nW 1, lW]
theorem covN_ex {t : Int} (h : 5640 ≤ t) (h2 : t < 5800) : covN z0 [] wsEx t 2 = 3 := by
  have e : (decide (1320 ≤ t % 1440) || decide (t % 1440 < 360)) = true := by
    simp only [Bool.or_eq_true, decide_eq_true_eq]; omega
  have c0 : covT z0 [] (gw wsEx 0) t = true := by rw [covT_night rfl rfl rfl rfl]; exact e
  have c1 : covT z0 [] (gw wsEx 1) t = true := by rw [covT_night rfl rfl rfl rfl]; exact e
  unfold covN
  rw [numOf, numOf, numOf]
  simp only [c0, c1, if_true]
  decide
theorem wonN_ex : wonN wsEx 3 = 2 := by kernel_rfl
theorem won_ex {t : Int} (h : 5640 ≤ t) (h2 : t < 5800) (j : Nat) : wonT z0 [] wsEx t j = Nat.testBit 2 j := by
  unfold wonT
  rw [show wsEx.length = 2 from rfl, covN_ex h h2, wonN_ex]
theorem markL_ex : markL z0 [] wsEx [pEx] = [⟨3, lateB, 160⟩] := by
  have hd : srt (daysK [pEx]) = [3] := by
    rw [show daysK [pEx] = [3] from rfl]
    simp [srt]
  have h0 : mn z0 [] wsEx [pEx] 3 0 = 0 := by
    unfold mn totP
    have := cntP_all (z := z0) (h := []) (ws := wsEx) (fr := 5640) (j := 0) (b := false) 160 (fun k hk => by rw [won_ex (by omega) (by omega)]; rfl)
    simp [wsEx, pEx, pcN]
    exact this
  have h1 : mn z0 [] wsEx [pEx] 3 1 = 160 := by
    unfold mn totP
    have := cntP_all (z := z0) (h := []) (ws := wsEx) (fr := 5640) (j := 1) (b := true) 160 (fun k hk => by rw [won_ex (by omega) (by omega)]; rfl)
    simp [wsEx, pEx, pcN]
    exact this
  unfold markL
  rw [hd, show wsEx.length = 2 from rfl, List.flatMap_cons, List.flatMap_nil, dayL, dayL, dayL, h0, h1]
  rfl

end Go.Proofs.YtefemdpicjgkeaaGreatDoor
