/- Rows that are nearly final: one element holds a slice that is made unchangeable. -/
import Derived.Test.YtjacobmkfkmdiaaAbs35
set_option linter.unusedSimpArgs false
set_option linter.unusedVariables false
set_option linter.unusedSectionVars false
namespace Go.Abs

theorem cleanE_append : ∀ {a b : List (List AVal)}, cleanE (a ++ b) = (cleanE a && cleanE b)
  | [], b => by simp [cleanE]
  | e :: a, b => by simp only [List.cons_append, cleanE, cleanE_append, Bool.and_assoc]
theorem map_bindL_clean {rows : List Row} {sel : List (Option Nat)} {vw : List Nat} : ∀ {es : List (List AVal)}, cleanE es = true → es.map (bindL rows sel vw) = es
  | [], _ => _root_.id rfl
  | e :: es, h => by
    simp only [cleanE, Bool.and_eq_true] at h
    rw [List.map_cons, bindL_clean e h.1, map_bindL_clean h.2]
theorem bindE_eq {rows : List Row} {sel : List (Option Nat)} {vw : List Nat} {es : List (List AVal)} : bindE rows sel vw es = es.map (bindL rows sel vw) := by
  unfold bindE
  split
  · rename_i h; rw [map_bindL_clean h]
  · rfl
theorem bindE_snoc {α : Type} [Cel α] {rows : List Row} {sel : List (Option Nat)} {vw : List Nat} {l : List α} {x : List AVal} : bindE rows sel vw (els l ++ [x]) = els l ++ [bindL rows sel vw x] := by
  rw [bindE_eq, List.map_append, map_bindL_clean els_clean]; rfl
theorem bindE_set {α : Type} [Cel α] {rows : List Row} {sel : List (Option Nat)} {vw : List Nat} {l : List α} {i : Nat} {x : List AVal} : bindE rows sel vw ((els l).set i x) = (els l).set i (bindL rows sel vw x) := by
  rw [bindE_eq, List.map_set, map_bindL_clean els_clean]
theorem map_renL_clean {f : Nat → Nat} : ∀ {es : List (List AVal)}, cleanE es = true → es.map (renL f) = es
  | [], _ => _root_.id rfl
  | e :: es, h => by
    simp only [cleanE, Bool.and_eq_true] at h
    rw [List.map_cons, renL_clean f e h.1, map_renL_clean h.2]
theorem renE_snoc {α : Type} [Cel α] {f : Nat → Nat} {l : List α} {x : List AVal} : renE f (els l ++ [x]) = els l ++ [renL f x] := by
  rw [renE_eq, List.map_append, map_renL_clean els_clean]; rfl
theorem bindE_one {rows : List Row} {sel : List (Option Nat)} {vw : List Nat} {x : List AVal} : bindE rows sel vw [x] = [bindL rows sel vw x] := by
  rw [bindE_eq]; rfl
theorem renE_one {f : Nat → Nat} {x : List AVal} : renE f [x] = [renL f x] := by
  rw [renE_eq]; rfl
theorem bindE_els {α : Type} [Cel α] {rows : List Row} {sel : List (Option Nat)} {vw : List Nat} {l : List α} : bindE rows sel vw (els l) = els l := by
  rw [bindE_eq, map_bindL_clean els_clean]
theorem renE_els {α : Type} [Cel α] {f : Nat → Nat} {l : List α} : renE f (els l) = els l := by
  rw [renE_eq, map_renL_clean els_clean]
theorem bindE_nums {k : IntKind} {rows : List Row} {sel : List (Option Nat)} {vw : List Nat} {l : List Int} : bindE rows sel vw (numsE k l) = numsE k l := by
  rw [bindE_eq, map_bindL_clean numsE_clean]
theorem bindE_nil {rows : List Row} {sel : List (Option Nat)} {vw : List Nat} : bindE rows sel vw [] = [] := by rw [bindE_eq]; rfl
theorem renE_nil {f : Nat → Nat} : renE f [] = [] := by rw [renE_eq]; rfl
theorem bindE_if_snoc {α : Type} [Cel α] {rows : List Row} {sel : List (Option Nat)} {vw : List Nat} {l : List α} {x : List AVal} :
    (if cleanE (els l ++ [x]) = true then els l ++ [x] else (els l ++ [x]).map (bindL rows sel vw)) = els l ++ [bindL rows sel vw x] := bindE_snoc
theorem renE_if_snoc {α : Type} [Cel α] {f : Nat → Nat} {l : List α} {x : List AVal} : (if cleanE (els l ++ [x]) = true then els l ++ [x] else (els l ++ [x]).map (renL f)) = els l ++ [renL f x] := renE_snoc
attribute [go_sem] bindE_if_snoc renE_if_snoc
/-- a slice of a row that is made unchangeable -/
theorem bindV_frz {rows : List Row} {sel : List (Option Nat)} {vw : List Nat} {r n : Nat} {e : TypeId} {sz : Nat} {vals : List (List AVal)} (hs : pos? sel r = none) (hv : vw.contains r = true) (hr : rows[r]? = some (.live e sz vals)) (hn : n = vals.length) (hc : cleanE vals = true) :
    bindV rows sel vw (.own r n 0 n) = .pure sz vals := by
  rw [bindV]
  simp only [hs, hv, if_true, hr]
  rw [if_pos ⟨hn, by omega, hc⟩, List.drop_zero, hn, List.take_length]

end Go.Abs
