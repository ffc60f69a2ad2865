/- PresenceLimits: the lists of the law, in plain words. -/
import Derived.Test.YtjacobmkfkmdiaaA2RefP2
import Derived.Test.YtjacobmkfkmdiaaA2Same
import Derived.Test.YtjacobmkfkmdiaaA2LSnd
set_option linter.unusedSimpArgs false
set_option linter.unusedVariables false
set_option linter.unusedSectionVars false
namespace Go.Proofs.Ytjacobmkfkmdiaa
open Go Go.Abs

def stF (i : Nat) : Stamp := ⟨3 * i, if i % 2 = 0 then 1 else 2, 0, 0⟩
def prF (i : Nat) : Pre := ⟨3 * i, 3 * i + 2, []⟩
def brF (i : Nat) : Iv := ⟨3 * i, 3 * i + 2⟩
def stL (n : Nat) : List Stamp := (List.range n).map stF
def prL (n : Nat) : List Pre := (List.range n).map prF
def brL (n : Nat) : List Iv := (List.range n).map brF
theorem stL_len (n : Nat) : (stL n).length = n := by simp [stL]
theorem prL_len (n : Nat) : (prL n).length = n := by simp [prL]
theorem brL_len (n : Nat) : (brL n).length = n := by simp [brL]
theorem stL_succ (n : Nat) : stL (n + 1) = stL n ++ [stF n] := by simp [stL, List.range_succ]
theorem prL_succ (n : Nat) : prL (n + 1) = prL n ++ [prF n] := by simp [prL, List.range_succ]
theorem brL_succ (n : Nat) : brL (n + 1) = brL n ++ [brF n] := by simp [brL, List.range_succ]

theorem sOk_from : ∀ (k s : Nat) (b : Int), b ≤ 3 * s → s + k ≤ 2000 → sOk b ((List.range' s k).map stF) = true
  | 0, s, b, _, _ => rfl
  | k + 1, s, b, h, h1 => by
    rw [List.range'_succ, List.map_cons, sOk, Bool.and_eq_true, decide_eq_true_eq]
    refine ⟨⟨?_, ?_, by simp only [stF]; omega, by simp only [stF]; omega⟩, sOk_from k (s + 1) _ (by simp only [stF]; omega) (by omega)⟩
    · simp only [stF]; split <;> omega
    · simp only [stF]; split <;> omega
theorem presOk_from : ∀ (k s : Nat) (b : Int), b ≤ 3 * s → s + k ≤ 2000 → presOk b ((List.range' s k).map prF) = true
  | 0, s, b, _, _ => rfl
  | k + 1, s, b, h, h1 => by
    rw [List.range'_succ, List.map_cons, presOk, Bool.and_eq_true]
    refine ⟨?_, presOk_from k (s + 1) _ (by simp only [prF]; omega) (by omega)⟩
    simp only [preOk, ivIn, Bool.and_eq_true, decide_eq_true_eq]
    exact ⟨⟨by simp only [prF]; omega, by simp [prF]⟩, rfl⟩
theorem brOk_from : ∀ (k s : Nat) (b : Int), b ≤ 3 * s → s + k ≤ 1500 → brOk b 5000 ((List.range' s k).map brF) = true
  | 0, s, b, _, _ => rfl
  | k + 1, s, b, h, h1 => by
    rw [List.range'_succ, List.map_cons, brOk, Bool.and_eq_true]
    refine ⟨?_, brOk_from k (s + 1) _ (by simp only [brF]; omega) (by omega)⟩
    simp only [ivIn, decide_eq_true_eq]
    simp only [brF]
    omega
theorem brMin_from : ∀ (k s : Nat), brMin ((List.range' s k).map brF) = 2 * k
  | 0, s => rfl
  | k + 1, s => by
    rw [List.range'_succ, List.map_cons, brMin, brMin_from k (s + 1)]
    simp only [brF]; omega
theorem lim_check (n : Nat) (hn : n ≤ 1500) (m : Int) (h1 : 1 ≤ m) (h2 : m ≤ 10080) : pcheck (stL n) m = if n ≤ 1024 then 0 else 3 := by
  rw [pcheck, stL_len]
  split
  · rw [if_neg (by omega)]
  · rw [if_neg (by omega), if_pos (by rw [stL, List.range_eq_range']; exact sOk_from _ _ _ (by omega) (by omega)), if_pos (by omega)]
theorem lim_sOk (n : Nat) (hn : n ≤ 1500) : sOk 0 (stL n) = true := by rw [stL, List.range_eq_range']; exact sOk_from _ _ _ (by omega) (by omega)
theorem lim_valid (n : Nat) (hn : n ≤ 1500) : pvalid (prL n) = if n ≤ 1024 then 0 else 1 := by
  rw [pvalid, prL_len]
  split
  · rw [if_neg (by omega)]
  · rw [if_pos (by rw [prL, List.range_eq_range']; exact presOk_from _ _ _ (by omega) (by omega)), if_pos (by omega)]
theorem lim_one (n : Nat) (hn : n ≤ 1500) : preOk 0 ⟨0, 5000, brL n⟩ = decide (n ≤ 1024) := by
  have h : brOk 0 5000 (brL n) = true := by rw [brL, List.range_eq_range']; exact brOk_from _ _ _ (by omega) (by omega)
  simp only [preOk, ivIn, brL_len, h, Bool.and_true]
  simp
theorem lim_valid1 (n : Nat) (hn : n ≤ 1500) : pvalid [⟨0, 5000, brL n⟩] = if n ≤ 1024 then 0 else 1 := by
  simp only [pvalid, presOk, List.length_cons, List.length_nil, Bool.and_true, lim_one n hn]
  simp
theorem lim_min (n : Nat) (hn : n ≤ 1500) : pmin ⟨0, 5000, brL n⟩ = if n ≤ 1024 then 5000 - 2 * n else 0 := by
  have h : brMin (brL n) = 2 * n := by rw [brL, List.range_eq_range']; exact brMin_from _ _
  rw [pmin, lim_valid1 n hn, h]
  by_cases hn : n ≤ 1024
  · simp only [if_pos hn, if_true]; omega
  · simp only [if_neg hn]; simp

theorem pairs_bd {L : List Stamp} {n : Int} : (pairP L n).length ≤ 1024 ∧ (pairA L n).length ≤ 1024 ∧ ∀ p ∈ pairP L n, p.br.length ≤ 1024 := by
  by_cases h : pcheck L n = 0
  · obtain ⟨h1, h2, h3, h4⟩ := pcheck_zero h
    obtain ⟨_, hv, _, hc⟩ := sound_pl h4 h1 h2 h3
    exact ⟨by omega, by omega, fun p hp => (presOk_mem (pvalid_presOk hv) (by omega) p hp).2.2.2.1⟩
  · simp [pairP, pairA, h]

end Go.Proofs.Ytjacobmkfkmdiaa
